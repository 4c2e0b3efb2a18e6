-- Written by a program of this work (wip/given.py) out of the translation; Lean checks it.
import Derived.Test.YteanncfmaomhaaaEx0
import Derived.Test.YteanncfmaomhaaaWFoot
import Derived.Test.YteanncfmaomhaaaWN
import Derived.Test.YteanncfmaomhaaaWRepsOne
import Derived.Test.YteanncfmaomhaaaWShare
import Derived.Test.YteanncfmaomhaaaWKept
import Derived.Test.YteanncfmaomhaaaWApart
namespace Go.Proofs.Yteanncfmaomhaaa.Ex
open Go.RowKit Go.Proofs.YteanncfmaomhaaaW.PrintWords Go.Proofs.YteanncfmaomhaaaW.PrintLast Go.Proofs.YteanncfmaomhaaaW.PrintMore
attribute [local go_sem] max2_int min2_int max_two min_two max_three min_three max_four min_four   -- for this text's walks alone
set_option linter.unusedVariables false
set_option linter.unusedSimpArgs false

/-! ### tidemillref05_taken: function 38 -/
def tidemillref05_taken.l0 : Nat → Int → Int → Int → List (S40) → Int → Option (Bool)
  | 0, _, _, _, _, _ => none
  | k + 1, x1, x5, x6, x182000, x182001 => if x6 < x1 then (if 0 ≤ x6 then (if x6 < (x182000.length : Int) then (if ((rd_T40 x182000 x6).f0) = x5 then (if 0 ≤ x1 then (if x1 < (x182000.length : Int) then (if ((rd_T40 x182000 x6).f3) = ((rd_T40 x182000 x1).f3) then (if x5 = 1 then (some true) else (if x5 = 10 then (some true) else (tidemillref05_taken.l0 k x1 x5 (wrap64 (x6 + 1)) x182000 x182001))) else (tidemillref05_taken.l0 k x1 x5 (wrap64 (x6 + 1)) x182000 x182001)) else (none)) else (none)) else (tidemillref05_taken.l0 k x1 x5 (wrap64 (x6 + 1)) x182000 x182001)) else (none)) else (none)) else (some false)
def tidemillref05_taken.f (k : Nat) (l0_0 : List (S40)) (a0_1 : Int) (a1 : Int) : Option (Bool) := if 0 ≤ a1 then (if a1 < (l0_0.length : Int) then (tidemillref05_taken.l0 k a1 ((rd_T40 l0_0 a1).f0) 0 l0_0 a0_1) else (none)) else (none)
theorem tidemillref05_taken.mono_l : ∀ k, (∀ y0 y1 y2 y3 y4, LeO (tidemillref05_taken.l0 k y0 y1 y2 y3 y4) (tidemillref05_taken.l0 (k + 1) y0 y1 y2 y3 y4))
  | 0 => fun _ _ _ _ _ r h => by simp [tidemillref05_taken.l0] at h
  | k + 1 => by
    have ih0 := tidemillref05_taken.mono_l k
    · intro y0 y1 y2 y3 y4
      unfold tidemillref05_taken.l0
      repeat' first
      | (with_reducible exact ih0 _ _ _ _ _)
      | (with_reducible exact LeO.refl _)
      | (with_reducible exact LeO.none _)
      | (with_reducible refine LeO.ite ?_ ?_)
      | (with_reducible refine LeO.bind ?_ (fun _ => ?_))
      | exact ih0 _ _ _ _ _
      | exact LeO.none _
      | refine LeO.ite ?_ ?_
      | refine LeO.bind ?_ (fun _ => ?_)
theorem tidemillref05_taken.mono : ∀ a0 a1 a2 k, LeO (tidemillref05_taken.f k a0 a1 a2) (tidemillref05_taken.f (k + 1) a0 a1 a2) := by
  intro a0 a1 a2 k
  have ih0 := tidemillref05_taken.mono_l k
  unfold tidemillref05_taken.f
  repeat' first
      | (with_reducible exact ih0 _ _ _ _ _)
      | (with_reducible exact LeO.refl _)
      | (with_reducible exact LeO.none _)
      | (with_reducible refine LeO.ite ?_ ?_)
      | (with_reducible refine LeO.bind ?_ (fun _ => ?_))
      | exact ih0 _ _ _ _ _
      | exact LeO.none _
      | refine LeO.ite ?_ ?_
      | refine LeO.bind ?_ (fun _ => ?_)
set_option maxHeartbeats 8000000 in
set_option maxRecDepth 100000 in
theorem tidemillref05_taken.calls (k : Nat) (A0_0 : Option Addr) (c0_0 : Nat) (l0_0 : List (S40)) (a0_1 : Int) (a1 : Int) (r : Bool) (w : World) (hr0_0 : Kd.C k40 w A0_0 l0_0.length l0_0) (hc0_0 : l0_0.length ≤ c0_0) (h : tidemillref05_taken.f k l0_0 a0_1 a1 = some r) :
    Calls Try.prog 38 #[.agg #[.slice A0_0 l0_0.length c0_0, .int .i64 a0_1], .int .i64 a1] w fun e w' => e = .returned (.bool r) ∧ Below w.heap.size w w' := by
  have hu24 := Try.underlying24
  have HR0_0 := Aside0.mk hr0_0
  have HC0_0 := Aside0.mk hc0_0
  clear hr0_0 hc0_0
  have HB := Aside0.mk (Below.refl w.heap.size w)
  have H : (if 0 ≤ a1 then (if a1 < (l0_0.length : Int) then (tidemillref05_taken.l0 k a1 ((rd_T40 l0_0 a1).f0) 0 l0_0 a0_1) else (none)) else (none)) = some r := h
  clear h
  by_cases c3 : 0 ≤ a1
  · rw [if_pos c3] at H
    have c3b0 : decide (0 ≤ a1) = true := decide_eq_true c3
    clear c3
    by_cases c4 : a1 < (l0_0.length : Int)
    · rw [if_pos c4] at H
      have c4b0 : decide (a1 < (l0_0.length : Int)) = true := decide_eq_true c4
      clear c4
      have H' := Aside0.mk H
      clear H
      go_enter Try.func38, Try.ntmps38
      go_wp2_with (first | ((with_reducible refine gate_dst (N := 2) rfl ?_); refine box_event ?hg (N := 2) ?hd (cs := #[.slice A0_0 l0_0.length c0_0, .int .i64 a0_1]) (t := 24) ?hr ?_; (case hd => rfl); (case hg => rfl); (case hr => first | (go_simp; done) | (go_simp; rfl)); intro gb181 hg w5 hbox hb; have n0_ := Aside0.mk (below_step (by repeat (first | (with_reducible first | exact HB.out | apply below_alloc | apply pw_below_drewN | apply below_drew1) | exact HB.out)) hb); have n1_ := Aside0.mk (hbox); have n2_ := Aside0.mk ((by rw [hg]; exact (below_size (by repeat (first | (with_reducible first | exact HB.out | apply below_alloc | apply pw_below_drewN | apply below_drew1) | exact HB.out))) : w.heap.size ≤ gb181)); have n3_ := Aside0.mk ((by rw [hg]; exact (below_size (by repeat (first | (with_reducible first | exact HB.out | apply below_alloc | apply pw_below_drewN | apply below_drew1) | exact HB.out))) : w.heap.size ≤ gb181)); clear HB; have HB := n0_; have BK181 := n1_; have GW181 := n2_; have GE181 := n3_; clear n0_ n1_ n2_ n3_; clear hb hbox hg; have hcz6_0 : w5.cell? ⟨gb181, 0, none⟩ = some (.slice A0_0 l0_0.length c0_0) := (blk_cell BK181.out 0).trans rfl; have hcz6_1 : w5.cell? ⟨gb181, 1, none⟩ = some (.int .i64 a0_1) := (blk_cell BK181.out 1).trans rfl; have hfz6_0 := blk_frozen BK181.out 0; have hfz6_1 := blk_frozen BK181.out 1; have p182 : 0 ≤ (a1 : Int) := of_decide_eq_true (by first | (with_reducible assumption) | assumption); have q182 : a1 < (l0_0.length : Int) := of_decide_eq_true (by first | (with_reducible assumption) | assumption); obtain ⟨ad182, A182_1, c182_1, A182_4, c182_4, e182, hx182_0, hx182_1, hx182_2, hx182_3, hx182_4, hx182_5, hl182_1, hi182_1, hl182_4, hi182_4⟩ := at_T40 HR0_0.out a1 p182 q182; cases e182; replace hx182_0 := (HB.out.cell (World.block_lt_of_cell? w _ hx182_0)).trans hx182_0; replace hx182_1 := (HB.out.cell (World.block_lt_of_cell? w _ hx182_1)).trans hx182_1; replace hx182_2 := (HB.out.cell (World.block_lt_of_cell? w _ hx182_2)).trans hx182_2; replace hx182_3 := (HB.out.cell (World.block_lt_of_cell? w _ hx182_3)).trans hx182_3; replace hx182_4 := (HB.out.cell (World.block_lt_of_cell? w _ hx182_4)).trans hx182_4; replace hx182_5 := (HB.out.cell (World.block_lt_of_cell? w _ hx182_5)).trans hx182_5; have HR182_1 := Aside0.mk hi182_1; have HC182_1 := Aside0.mk hl182_1; clear hi182_1 hl182_1; have HR182_4 := Aside0.mk hi182_4; have HC182_4 := Aside0.mk hl182_4; clear hi182_4 hl182_4; replace p182 := eq_true p182; replace q182 := eq_true q182))
      repeat (go_quiet (first | ((with_reducible refine gate_dst (N := 2) rfl ?_); refine box_event ?hg (N := 2) ?hd (cs := #[.slice A0_0 l0_0.length c0_0, .int .i64 a0_1]) (t := 24) ?hr ?_; (case hd => rfl); (case hg => rfl); (case hr => first | (go_simp; done) | (go_simp; rfl)); intro gb181 hg w5 hbox hb; have n0_ := Aside0.mk (below_step (by repeat (first | (with_reducible first | exact HB.out | apply below_alloc | apply pw_below_drewN | apply below_drew1) | exact HB.out)) hb); have n1_ := Aside0.mk (hbox); have n2_ := Aside0.mk ((by rw [hg]; exact (below_size (by repeat (first | (with_reducible first | exact HB.out | apply below_alloc | apply pw_below_drewN | apply below_drew1) | exact HB.out))) : w.heap.size ≤ gb181)); have n3_ := Aside0.mk ((by rw [hg]; exact (below_size (by repeat (first | (with_reducible first | exact HB.out | apply below_alloc | apply pw_below_drewN | apply below_drew1) | exact HB.out))) : w.heap.size ≤ gb181)); clear HB; have HB := n0_; have BK181 := n1_; have GW181 := n2_; have GE181 := n3_; clear n0_ n1_ n2_ n3_; clear hb hbox hg; have hcz6_0 : w5.cell? ⟨gb181, 0, none⟩ = some (.slice A0_0 l0_0.length c0_0) := (blk_cell BK181.out 0).trans rfl; have hcz6_1 : w5.cell? ⟨gb181, 1, none⟩ = some (.int .i64 a0_1) := (blk_cell BK181.out 1).trans rfl; have hfz6_0 := blk_frozen BK181.out 0; have hfz6_1 := blk_frozen BK181.out 1; have p182 : 0 ≤ (a1 : Int) := of_decide_eq_true (by first | (with_reducible assumption) | assumption); have q182 : a1 < (l0_0.length : Int) := of_decide_eq_true (by first | (with_reducible assumption) | assumption); obtain ⟨ad182, A182_1, c182_1, A182_4, c182_4, e182, hx182_0, hx182_1, hx182_2, hx182_3, hx182_4, hx182_5, hl182_1, hi182_1, hl182_4, hi182_4⟩ := at_T40 HR0_0.out a1 p182 q182; cases e182; replace hx182_0 := (HB.out.cell (World.block_lt_of_cell? w _ hx182_0)).trans hx182_0; replace hx182_1 := (HB.out.cell (World.block_lt_of_cell? w _ hx182_1)).trans hx182_1; replace hx182_2 := (HB.out.cell (World.block_lt_of_cell? w _ hx182_2)).trans hx182_2; replace hx182_3 := (HB.out.cell (World.block_lt_of_cell? w _ hx182_3)).trans hx182_3; replace hx182_4 := (HB.out.cell (World.block_lt_of_cell? w _ hx182_4)).trans hx182_4; replace hx182_5 := (HB.out.cell (World.block_lt_of_cell? w _ hx182_5)).trans hx182_5; have HR182_1 := Aside0.mk hi182_1; have HC182_1 := Aside0.mk hl182_1; clear hi182_1 hl182_1; have HR182_4 := Aside0.mk hi182_4; have HC182_4 := Aside0.mk hl182_4; clear hi182_4 hl182_4; replace p182 := eq_true p182; replace q182 := eq_true q182)); try go_wp2_with (first | ((with_reducible refine gate_dst (N := 2) rfl ?_); refine box_event ?hg (N := 2) ?hd (cs := #[.slice A0_0 l0_0.length c0_0, .int .i64 a0_1]) (t := 24) ?hr ?_; (case hd => rfl); (case hg => rfl); (case hr => first | (go_simp; done) | (go_simp; rfl)); intro gb181 hg w5 hbox hb; have n0_ := Aside0.mk (below_step (by repeat (first | (with_reducible first | exact HB.out | apply below_alloc | apply pw_below_drewN | apply below_drew1) | exact HB.out)) hb); have n1_ := Aside0.mk (hbox); have n2_ := Aside0.mk ((by rw [hg]; exact (below_size (by repeat (first | (with_reducible first | exact HB.out | apply below_alloc | apply pw_below_drewN | apply below_drew1) | exact HB.out))) : w.heap.size ≤ gb181)); have n3_ := Aside0.mk ((by rw [hg]; exact (below_size (by repeat (first | (with_reducible first | exact HB.out | apply below_alloc | apply pw_below_drewN | apply below_drew1) | exact HB.out))) : w.heap.size ≤ gb181)); clear HB; have HB := n0_; have BK181 := n1_; have GW181 := n2_; have GE181 := n3_; clear n0_ n1_ n2_ n3_; clear hb hbox hg; have hcz6_0 : w5.cell? ⟨gb181, 0, none⟩ = some (.slice A0_0 l0_0.length c0_0) := (blk_cell BK181.out 0).trans rfl; have hcz6_1 : w5.cell? ⟨gb181, 1, none⟩ = some (.int .i64 a0_1) := (blk_cell BK181.out 1).trans rfl; have hfz6_0 := blk_frozen BK181.out 0; have hfz6_1 := blk_frozen BK181.out 1; have p182 : 0 ≤ (a1 : Int) := of_decide_eq_true (by first | (with_reducible assumption) | assumption); have q182 : a1 < (l0_0.length : Int) := of_decide_eq_true (by first | (with_reducible assumption) | assumption); obtain ⟨ad182, A182_1, c182_1, A182_4, c182_4, e182, hx182_0, hx182_1, hx182_2, hx182_3, hx182_4, hx182_5, hl182_1, hi182_1, hl182_4, hi182_4⟩ := at_T40 HR0_0.out a1 p182 q182; cases e182; replace hx182_0 := (HB.out.cell (World.block_lt_of_cell? w _ hx182_0)).trans hx182_0; replace hx182_1 := (HB.out.cell (World.block_lt_of_cell? w _ hx182_1)).trans hx182_1; replace hx182_2 := (HB.out.cell (World.block_lt_of_cell? w _ hx182_2)).trans hx182_2; replace hx182_3 := (HB.out.cell (World.block_lt_of_cell? w _ hx182_3)).trans hx182_3; replace hx182_4 := (HB.out.cell (World.block_lt_of_cell? w _ hx182_4)).trans hx182_4; replace hx182_5 := (HB.out.cell (World.block_lt_of_cell? w _ hx182_5)).trans hx182_5; have HR182_1 := Aside0.mk hi182_1; have HC182_1 := Aside0.mk hl182_1; clear hi182_1 hl182_1; have HR182_4 := Aside0.mk hi182_4; have HC182_4 := Aside0.mk hl182_4; clear hi182_4 hl182_4; replace p182 := eq_true p182; replace q182 := eq_true q182)))
      go_loopg [6] k (fun kq v6 w' => ∃ (x6_1 : Int), v6 = .int .i64 x6_1 ∧ Aside0 (tidemillref05_taken.l0 kq a1 ((rd_T40 l0_0 a1).f0) x6_1 l0_0 a0_1 = some r) ∧ Aside0 (kq ≤ k) ∧ Aside0 (w'.heap[gb181]? = some (.cells #[(.slice (some ad182) l0_0.length c0_0), .int .i64 a0_1] 24 (0, 0))) ∧ Aside0 (Below w.heap.size w w'))
      case atStart => exact ⟨(0), (by first | rfl | (simp; done) | (simp [*]; done)), H', ⟨Nat.le_refl _⟩, ⟨by (with_reducible repeat (first | refine blk_drewN ?_ _ | refine blk_drew ?_ | refine blk_alloc ?_ _)); exact BK181.out⟩, ⟨by repeat (first | (with_reducible first | exact HB.out | apply below_alloc | apply pw_below_drewN | apply below_drew1 | refine below_set ?_ GE181.out) | exact HB.out)⟩⟩
      case round =>
        clear H'
        try clear c1
        try clear p1
        try clear q1
        try clear hx1
        try clear p2
        try clear c3
        try clear c3b0
        try clear c4
        try clear c4b0
        try clear hcz6_0
        try clear hcz6_1
        try clear hfz6_0
        try clear hfz6_1
        try clear hx182_0
        try clear hx182_1
        try clear hx182_2
        try clear hx182_3
        try clear hx182_4
        try clear hx182_5
        try clear p182
        try clear q182
        obtain ⟨x6_1, rfl, HA, HK1, BK181, HB⟩ := hrel
        cases gk with
        | zero => exact absurd HA.out (by simp [tidemillref05_taken.l0])
        | succ k1 =>
          have H := HA.out
          clear HA
          simp only [tidemillref05_taken.l0] at H
          by_cases c7 : x6_1 < a1
          · rw [if_pos c7] at H
            have c7b0 : decide (x6_1 < a1) = true := decide_eq_true c7
            clear c7
            by_cases c8 : 0 ≤ x6_1
            · rw [if_pos c8] at H
              have c8b0 : decide (0 ≤ x6_1) = true := decide_eq_true c8
              clear c8
              by_cases c9 : x6_1 < (l0_0.length : Int)
              · rw [if_pos c9] at H
                have c9b0 : decide (x6_1 < (l0_0.length : Int)) = true := decide_eq_true c9
                clear c9
                by_cases c10 : ((rd_T40 l0_0 x6_1).f0) = ((rd_T40 l0_0 a1).f0)
                · rw [if_pos c10] at H
                  have c10b0 : (((rd_T40 l0_0 x6_1).f0) == ((rd_T40 l0_0 a1).f0)) = true := beq_iff_eq.mpr c10
                  have c10b1 : (((rd_T40 l0_0 x6_1).f0) != ((rd_T40 l0_0 a1).f0)) = false := bne_eq_false_iff_eq.mpr c10
                  clear c10
                  by_cases c11 : 0 ≤ a1
                  · rw [if_pos c11] at H
                    have c11b0 : decide (0 ≤ a1) = true := decide_eq_true c11
                    clear c11
                    by_cases c12 : a1 < (l0_0.length : Int)
                    · rw [if_pos c12] at H
                      have c12b0 : decide (a1 < (l0_0.length : Int)) = true := decide_eq_true c12
                      clear c12
                      by_cases c13 : ((rd_T40 l0_0 x6_1).f3) = ((rd_T40 l0_0 a1).f3)
                      · rw [if_pos c13] at H
                        have c13b0 : (((rd_T40 l0_0 x6_1).f3) == ((rd_T40 l0_0 a1).f3)) = true := beq_iff_eq.mpr c13
                        have c13b1 : (((rd_T40 l0_0 x6_1).f3) != ((rd_T40 l0_0 a1).f3)) = false := bne_eq_false_iff_eq.mpr c13
                        clear c13
                        by_cases c14 : ((rd_T40 l0_0 a1).f0) = 1
                        · rw [if_pos c14] at H
                          have c14b0 : (((rd_T40 l0_0 a1).f0) == 1) = true := beq_iff_eq.mpr c14
                          have c14b1 : (((rd_T40 l0_0 a1).f0) != 1) = false := bne_eq_false_iff_eq.mpr c14
                          clear c14
                          obtain rfl := Option.some.inj H
                          have hcz15_0 : wr.cell? ⟨gb181, 0, none⟩ = some (.slice (some ad182) l0_0.length c0_0) := (blk_cell BK181.out 0).trans rfl
                          have hcz15_1 : wr.cell? ⟨gb181, 1, none⟩ = some (.int .i64 a0_1) := (blk_cell BK181.out 1).trans rfl
                          have hfz15_0 := blk_frozen BK181.out 0
                          have hfz15_1 := blk_frozen BK181.out 1
                          have p183 : 0 ≤ (x6_1 : Int) := of_decide_eq_true (by first | (with_reducible assumption) | assumption)
                          have q183 : x6_1 < (l0_0.length : Int) := of_decide_eq_true (by first | (with_reducible assumption) | assumption)
                          obtain ⟨ad183, A183_1, c183_1, A183_4, c183_4, e183, hx183_0, hx183_1, hx183_2, hx183_3, hx183_4, hx183_5, hl183_1, hi183_1, hl183_4, hi183_4⟩ := at_T40 HR0_0.out x6_1 p183 q183
                          obtain rfl : ad182 = ad183 := (by injection e183)
                          replace hx183_0 := (HB.out.cell (World.block_lt_of_cell? w _ hx183_0)).trans hx183_0
                          replace hx183_1 := (HB.out.cell (World.block_lt_of_cell? w _ hx183_1)).trans hx183_1
                          replace hx183_2 := (HB.out.cell (World.block_lt_of_cell? w _ hx183_2)).trans hx183_2
                          replace hx183_3 := (HB.out.cell (World.block_lt_of_cell? w _ hx183_3)).trans hx183_3
                          replace hx183_4 := (HB.out.cell (World.block_lt_of_cell? w _ hx183_4)).trans hx183_4
                          replace hx183_5 := (HB.out.cell (World.block_lt_of_cell? w _ hx183_5)).trans hx183_5
                          have HR183_1 := Aside0.mk hi183_1
                          have HC183_1 := Aside0.mk hl183_1
                          clear hi183_1 hl183_1
                          have HR183_4 := Aside0.mk hi183_4
                          have HC183_4 := Aside0.mk hl183_4
                          clear hi183_4 hl183_4
                          replace p183 := eq_true p183
                          replace q183 := eq_true q183
                          have p184 : 0 ≤ (x6_1 : Int) := of_decide_eq_true (by first | (with_reducible assumption) | assumption)
                          have q184 : x6_1 < (l0_0.length : Int) := of_decide_eq_true (by first | (with_reducible assumption) | assumption)
                          obtain ⟨ad184, A184_1, c184_1, A184_4, c184_4, e184, hx184_0, hx184_1, hx184_2, hx184_3, hx184_4, hx184_5, hl184_1, hi184_1, hl184_4, hi184_4⟩ := at_T40 HR0_0.out x6_1 p184 q184
                          obtain rfl : ad182 = ad184 := (by injection e184)
                          replace hx184_0 := (HB.out.cell (World.block_lt_of_cell? w _ hx184_0)).trans hx184_0
                          replace hx184_1 := (HB.out.cell (World.block_lt_of_cell? w _ hx184_1)).trans hx184_1
                          replace hx184_2 := (HB.out.cell (World.block_lt_of_cell? w _ hx184_2)).trans hx184_2
                          replace hx184_3 := (HB.out.cell (World.block_lt_of_cell? w _ hx184_3)).trans hx184_3
                          replace hx184_4 := (HB.out.cell (World.block_lt_of_cell? w _ hx184_4)).trans hx184_4
                          replace hx184_5 := (HB.out.cell (World.block_lt_of_cell? w _ hx184_5)).trans hx184_5
                          have HR184_1 := Aside0.mk hi184_1
                          have HC184_1 := Aside0.mk hl184_1
                          clear hi184_1 hl184_1
                          have HR184_4 := Aside0.mk hi184_4
                          have HC184_4 := Aside0.mk hl184_4
                          clear hi184_4 hl184_4
                          replace p184 := eq_true p184
                          replace q184 := eq_true q184
                          have ea_ := Option.some.inj (hx183_1.symm.trans hx184_1)
                          injection ea_ with ea_ en_ ec_
                          subst ea_
                          subst ec_
                          clear en_
                          have ea_ := Option.some.inj (hx183_4.symm.trans hx184_4)
                          injection ea_ with ea_ en_ ec_
                          subst ea_
                          subst ec_
                          clear en_
                          have p185 : 0 ≤ (a1 : Int) := of_decide_eq_true (by first | (with_reducible assumption) | assumption)
                          have q185 : a1 < (l0_0.length : Int) := of_decide_eq_true (by first | (with_reducible assumption) | assumption)
                          obtain ⟨ad185, A185_1, c185_1, A185_4, c185_4, e185, hx185_0, hx185_1, hx185_2, hx185_3, hx185_4, hx185_5, hl185_1, hi185_1, hl185_4, hi185_4⟩ := at_T40 HR0_0.out a1 p185 q185
                          obtain rfl : ad182 = ad185 := (by injection e185)
                          replace hx185_0 := (HB.out.cell (World.block_lt_of_cell? w _ hx185_0)).trans hx185_0
                          replace hx185_1 := (HB.out.cell (World.block_lt_of_cell? w _ hx185_1)).trans hx185_1
                          replace hx185_2 := (HB.out.cell (World.block_lt_of_cell? w _ hx185_2)).trans hx185_2
                          replace hx185_3 := (HB.out.cell (World.block_lt_of_cell? w _ hx185_3)).trans hx185_3
                          replace hx185_4 := (HB.out.cell (World.block_lt_of_cell? w _ hx185_4)).trans hx185_4
                          replace hx185_5 := (HB.out.cell (World.block_lt_of_cell? w _ hx185_5)).trans hx185_5
                          have HR185_1 := Aside0.mk hi185_1
                          have HC185_1 := Aside0.mk hl185_1
                          clear hi185_1 hl185_1
                          have HR185_4 := Aside0.mk hi185_4
                          have HC185_4 := Aside0.mk hl185_4
                          clear hi185_4 hl185_4
                          replace p185 := eq_true p185
                          replace q185 := eq_true q185
                          go_wp2
                          repeat (go_quiet (fail); try go_wp2)
                          go_ret
                          exact ⟨by first | rfl | (simp [errW_none, errW_some] <;> rfl) | (simp [*, errW_none, errW_some] <;> rfl), by repeat (first | (with_reducible first | exact HB.out | apply below_alloc | apply pw_below_drewN | apply below_drew1 | refine below_set ?_ GE181.out) | exact HB.out)⟩
                        · rw [if_neg c14] at H
                          have c14b0 : (((rd_T40 l0_0 a1).f0) == 1) = false := beq_eq_false_iff_ne.mpr c14
                          have c14b1 : (((rd_T40 l0_0 a1).f0) != 1) = true := bne_iff_ne.mpr c14
                          by_cases c16 : ((rd_T40 l0_0 a1).f0) = 10
                          · rw [if_pos c16] at H
                            have c16b0 : (((rd_T40 l0_0 a1).f0) == 10) = true := beq_iff_eq.mpr c16
                            have c16b1 : (((rd_T40 l0_0 a1).f0) != 10) = false := bne_eq_false_iff_eq.mpr c16
                            clear c16
                            obtain rfl := Option.some.inj H
                            have hcz17_0 : wr.cell? ⟨gb181, 0, none⟩ = some (.slice (some ad182) l0_0.length c0_0) := (blk_cell BK181.out 0).trans rfl
                            have hcz17_1 : wr.cell? ⟨gb181, 1, none⟩ = some (.int .i64 a0_1) := (blk_cell BK181.out 1).trans rfl
                            have hfz17_0 := blk_frozen BK181.out 0
                            have hfz17_1 := blk_frozen BK181.out 1
                            have p183 : 0 ≤ (x6_1 : Int) := of_decide_eq_true (by first | (with_reducible assumption) | assumption)
                            have q183 : x6_1 < (l0_0.length : Int) := of_decide_eq_true (by first | (with_reducible assumption) | assumption)
                            obtain ⟨ad183, A183_1, c183_1, A183_4, c183_4, e183, hx183_0, hx183_1, hx183_2, hx183_3, hx183_4, hx183_5, hl183_1, hi183_1, hl183_4, hi183_4⟩ := at_T40 HR0_0.out x6_1 p183 q183
                            obtain rfl : ad182 = ad183 := (by injection e183)
                            replace hx183_0 := (HB.out.cell (World.block_lt_of_cell? w _ hx183_0)).trans hx183_0
                            replace hx183_1 := (HB.out.cell (World.block_lt_of_cell? w _ hx183_1)).trans hx183_1
                            replace hx183_2 := (HB.out.cell (World.block_lt_of_cell? w _ hx183_2)).trans hx183_2
                            replace hx183_3 := (HB.out.cell (World.block_lt_of_cell? w _ hx183_3)).trans hx183_3
                            replace hx183_4 := (HB.out.cell (World.block_lt_of_cell? w _ hx183_4)).trans hx183_4
                            replace hx183_5 := (HB.out.cell (World.block_lt_of_cell? w _ hx183_5)).trans hx183_5
                            have HR183_1 := Aside0.mk hi183_1
                            have HC183_1 := Aside0.mk hl183_1
                            clear hi183_1 hl183_1
                            have HR183_4 := Aside0.mk hi183_4
                            have HC183_4 := Aside0.mk hl183_4
                            clear hi183_4 hl183_4
                            replace p183 := eq_true p183
                            replace q183 := eq_true q183
                            have p184 : 0 ≤ (x6_1 : Int) := of_decide_eq_true (by first | (with_reducible assumption) | assumption)
                            have q184 : x6_1 < (l0_0.length : Int) := of_decide_eq_true (by first | (with_reducible assumption) | assumption)
                            obtain ⟨ad184, A184_1, c184_1, A184_4, c184_4, e184, hx184_0, hx184_1, hx184_2, hx184_3, hx184_4, hx184_5, hl184_1, hi184_1, hl184_4, hi184_4⟩ := at_T40 HR0_0.out x6_1 p184 q184
                            obtain rfl : ad182 = ad184 := (by injection e184)
                            replace hx184_0 := (HB.out.cell (World.block_lt_of_cell? w _ hx184_0)).trans hx184_0
                            replace hx184_1 := (HB.out.cell (World.block_lt_of_cell? w _ hx184_1)).trans hx184_1
                            replace hx184_2 := (HB.out.cell (World.block_lt_of_cell? w _ hx184_2)).trans hx184_2
                            replace hx184_3 := (HB.out.cell (World.block_lt_of_cell? w _ hx184_3)).trans hx184_3
                            replace hx184_4 := (HB.out.cell (World.block_lt_of_cell? w _ hx184_4)).trans hx184_4
                            replace hx184_5 := (HB.out.cell (World.block_lt_of_cell? w _ hx184_5)).trans hx184_5
                            have HR184_1 := Aside0.mk hi184_1
                            have HC184_1 := Aside0.mk hl184_1
                            clear hi184_1 hl184_1
                            have HR184_4 := Aside0.mk hi184_4
                            have HC184_4 := Aside0.mk hl184_4
                            clear hi184_4 hl184_4
                            replace p184 := eq_true p184
                            replace q184 := eq_true q184
                            have ea_ := Option.some.inj (hx183_1.symm.trans hx184_1)
                            injection ea_ with ea_ en_ ec_
                            subst ea_
                            subst ec_
                            clear en_
                            have ea_ := Option.some.inj (hx183_4.symm.trans hx184_4)
                            injection ea_ with ea_ en_ ec_
                            subst ea_
                            subst ec_
                            clear en_
                            have p185 : 0 ≤ (a1 : Int) := of_decide_eq_true (by first | (with_reducible assumption) | assumption)
                            have q185 : a1 < (l0_0.length : Int) := of_decide_eq_true (by first | (with_reducible assumption) | assumption)
                            obtain ⟨ad185, A185_1, c185_1, A185_4, c185_4, e185, hx185_0, hx185_1, hx185_2, hx185_3, hx185_4, hx185_5, hl185_1, hi185_1, hl185_4, hi185_4⟩ := at_T40 HR0_0.out a1 p185 q185
                            obtain rfl : ad182 = ad185 := (by injection e185)
                            replace hx185_0 := (HB.out.cell (World.block_lt_of_cell? w _ hx185_0)).trans hx185_0
                            replace hx185_1 := (HB.out.cell (World.block_lt_of_cell? w _ hx185_1)).trans hx185_1
                            replace hx185_2 := (HB.out.cell (World.block_lt_of_cell? w _ hx185_2)).trans hx185_2
                            replace hx185_3 := (HB.out.cell (World.block_lt_of_cell? w _ hx185_3)).trans hx185_3
                            replace hx185_4 := (HB.out.cell (World.block_lt_of_cell? w _ hx185_4)).trans hx185_4
                            replace hx185_5 := (HB.out.cell (World.block_lt_of_cell? w _ hx185_5)).trans hx185_5
                            have HR185_1 := Aside0.mk hi185_1
                            have HC185_1 := Aside0.mk hl185_1
                            clear hi185_1 hl185_1
                            have HR185_4 := Aside0.mk hi185_4
                            have HC185_4 := Aside0.mk hl185_4
                            clear hi185_4 hl185_4
                            replace p185 := eq_true p185
                            replace q185 := eq_true q185
                            go_wp2
                            repeat (go_quiet (fail); try go_wp2)
                            go_ret
                            exact ⟨by first | rfl | (simp [errW_none, errW_some] <;> rfl) | (simp [*, errW_none, errW_some] <;> rfl), by repeat (first | (with_reducible first | exact HB.out | apply below_alloc | apply pw_below_drewN | apply below_drew1 | refine below_set ?_ GE181.out) | exact HB.out)⟩
                          · rw [if_neg c16] at H
                            have c16b0 : (((rd_T40 l0_0 a1).f0) == 10) = false := beq_eq_false_iff_ne.mpr c16
                            have c16b1 : (((rd_T40 l0_0 a1).f0) != 10) = true := bne_iff_ne.mpr c16
                            have H' := Aside0.mk H
                            clear H
                            have hcz18_0 : wr.cell? ⟨gb181, 0, none⟩ = some (.slice (some ad182) l0_0.length c0_0) := (blk_cell BK181.out 0).trans rfl
                            have hcz18_1 : wr.cell? ⟨gb181, 1, none⟩ = some (.int .i64 a0_1) := (blk_cell BK181.out 1).trans rfl
                            have hfz18_0 := blk_frozen BK181.out 0
                            have hfz18_1 := blk_frozen BK181.out 1
                            have p183 : 0 ≤ (x6_1 : Int) := of_decide_eq_true (by first | (with_reducible assumption) | assumption)
                            have q183 : x6_1 < (l0_0.length : Int) := of_decide_eq_true (by first | (with_reducible assumption) | assumption)
                            obtain ⟨ad183, A183_1, c183_1, A183_4, c183_4, e183, hx183_0, hx183_1, hx183_2, hx183_3, hx183_4, hx183_5, hl183_1, hi183_1, hl183_4, hi183_4⟩ := at_T40 HR0_0.out x6_1 p183 q183
                            obtain rfl : ad182 = ad183 := (by injection e183)
                            replace hx183_0 := (HB.out.cell (World.block_lt_of_cell? w _ hx183_0)).trans hx183_0
                            replace hx183_1 := (HB.out.cell (World.block_lt_of_cell? w _ hx183_1)).trans hx183_1
                            replace hx183_2 := (HB.out.cell (World.block_lt_of_cell? w _ hx183_2)).trans hx183_2
                            replace hx183_3 := (HB.out.cell (World.block_lt_of_cell? w _ hx183_3)).trans hx183_3
                            replace hx183_4 := (HB.out.cell (World.block_lt_of_cell? w _ hx183_4)).trans hx183_4
                            replace hx183_5 := (HB.out.cell (World.block_lt_of_cell? w _ hx183_5)).trans hx183_5
                            have HR183_1 := Aside0.mk hi183_1
                            have HC183_1 := Aside0.mk hl183_1
                            clear hi183_1 hl183_1
                            have HR183_4 := Aside0.mk hi183_4
                            have HC183_4 := Aside0.mk hl183_4
                            clear hi183_4 hl183_4
                            replace p183 := eq_true p183
                            replace q183 := eq_true q183
                            have p184 : 0 ≤ (x6_1 : Int) := of_decide_eq_true (by first | (with_reducible assumption) | assumption)
                            have q184 : x6_1 < (l0_0.length : Int) := of_decide_eq_true (by first | (with_reducible assumption) | assumption)
                            obtain ⟨ad184, A184_1, c184_1, A184_4, c184_4, e184, hx184_0, hx184_1, hx184_2, hx184_3, hx184_4, hx184_5, hl184_1, hi184_1, hl184_4, hi184_4⟩ := at_T40 HR0_0.out x6_1 p184 q184
                            obtain rfl : ad182 = ad184 := (by injection e184)
                            replace hx184_0 := (HB.out.cell (World.block_lt_of_cell? w _ hx184_0)).trans hx184_0
                            replace hx184_1 := (HB.out.cell (World.block_lt_of_cell? w _ hx184_1)).trans hx184_1
                            replace hx184_2 := (HB.out.cell (World.block_lt_of_cell? w _ hx184_2)).trans hx184_2
                            replace hx184_3 := (HB.out.cell (World.block_lt_of_cell? w _ hx184_3)).trans hx184_3
                            replace hx184_4 := (HB.out.cell (World.block_lt_of_cell? w _ hx184_4)).trans hx184_4
                            replace hx184_5 := (HB.out.cell (World.block_lt_of_cell? w _ hx184_5)).trans hx184_5
                            have HR184_1 := Aside0.mk hi184_1
                            have HC184_1 := Aside0.mk hl184_1
                            clear hi184_1 hl184_1
                            have HR184_4 := Aside0.mk hi184_4
                            have HC184_4 := Aside0.mk hl184_4
                            clear hi184_4 hl184_4
                            replace p184 := eq_true p184
                            replace q184 := eq_true q184
                            have ea_ := Option.some.inj (hx183_1.symm.trans hx184_1)
                            injection ea_ with ea_ en_ ec_
                            subst ea_
                            subst ec_
                            clear en_
                            have ea_ := Option.some.inj (hx183_4.symm.trans hx184_4)
                            injection ea_ with ea_ en_ ec_
                            subst ea_
                            subst ec_
                            clear en_
                            have p185 : 0 ≤ (a1 : Int) := of_decide_eq_true (by first | (with_reducible assumption) | assumption)
                            have q185 : a1 < (l0_0.length : Int) := of_decide_eq_true (by first | (with_reducible assumption) | assumption)
                            obtain ⟨ad185, A185_1, c185_1, A185_4, c185_4, e185, hx185_0, hx185_1, hx185_2, hx185_3, hx185_4, hx185_5, hl185_1, hi185_1, hl185_4, hi185_4⟩ := at_T40 HR0_0.out a1 p185 q185
                            obtain rfl : ad182 = ad185 := (by injection e185)
                            replace hx185_0 := (HB.out.cell (World.block_lt_of_cell? w _ hx185_0)).trans hx185_0
                            replace hx185_1 := (HB.out.cell (World.block_lt_of_cell? w _ hx185_1)).trans hx185_1
                            replace hx185_2 := (HB.out.cell (World.block_lt_of_cell? w _ hx185_2)).trans hx185_2
                            replace hx185_3 := (HB.out.cell (World.block_lt_of_cell? w _ hx185_3)).trans hx185_3
                            replace hx185_4 := (HB.out.cell (World.block_lt_of_cell? w _ hx185_4)).trans hx185_4
                            replace hx185_5 := (HB.out.cell (World.block_lt_of_cell? w _ hx185_5)).trans hx185_5
                            have HR185_1 := Aside0.mk hi185_1
                            have HC185_1 := Aside0.mk hl185_1
                            clear hi185_1 hl185_1
                            have HR185_4 := Aside0.mk hi185_4
                            have HC185_4 := Aside0.mk hl185_4
                            clear hi185_4 hl185_4
                            replace p185 := eq_true p185
                            replace q185 := eq_true q185
                            go_wp2
                            repeat (go_quiet (fail); try go_wp2)
                            go_roundg k1
                            case measure => have := HK1.out; omega
                            case rel => exact ⟨(wrap64 (x6_1 + 1)), (by first | rfl | (simp; done) | (simp [*]; done)), H', ⟨by have := HK1.out; omega⟩, ⟨by (with_reducible repeat (first | refine blk_drewN ?_ _ | refine blk_drew ?_ | refine blk_alloc ?_ _)); exact BK181.out⟩, ⟨by repeat (first | (with_reducible first | exact HB.out | apply below_alloc | apply pw_below_drewN | apply below_drew1 | refine below_set ?_ GE181.out) | exact HB.out)⟩⟩
                      · rw [if_neg c13] at H
                        have c13b0 : (((rd_T40 l0_0 x6_1).f3) == ((rd_T40 l0_0 a1).f3)) = false := beq_eq_false_iff_ne.mpr c13
                        have c13b1 : (((rd_T40 l0_0 x6_1).f3) != ((rd_T40 l0_0 a1).f3)) = true := bne_iff_ne.mpr c13
                        have H' := Aside0.mk H
                        clear H
                        have hcz19_0 : wr.cell? ⟨gb181, 0, none⟩ = some (.slice (some ad182) l0_0.length c0_0) := (blk_cell BK181.out 0).trans rfl
                        have hcz19_1 : wr.cell? ⟨gb181, 1, none⟩ = some (.int .i64 a0_1) := (blk_cell BK181.out 1).trans rfl
                        have hfz19_0 := blk_frozen BK181.out 0
                        have hfz19_1 := blk_frozen BK181.out 1
                        have p183 : 0 ≤ (x6_1 : Int) := of_decide_eq_true (by first | (with_reducible assumption) | assumption)
                        have q183 : x6_1 < (l0_0.length : Int) := of_decide_eq_true (by first | (with_reducible assumption) | assumption)
                        obtain ⟨ad183, A183_1, c183_1, A183_4, c183_4, e183, hx183_0, hx183_1, hx183_2, hx183_3, hx183_4, hx183_5, hl183_1, hi183_1, hl183_4, hi183_4⟩ := at_T40 HR0_0.out x6_1 p183 q183
                        obtain rfl : ad182 = ad183 := (by injection e183)
                        replace hx183_0 := (HB.out.cell (World.block_lt_of_cell? w _ hx183_0)).trans hx183_0
                        replace hx183_1 := (HB.out.cell (World.block_lt_of_cell? w _ hx183_1)).trans hx183_1
                        replace hx183_2 := (HB.out.cell (World.block_lt_of_cell? w _ hx183_2)).trans hx183_2
                        replace hx183_3 := (HB.out.cell (World.block_lt_of_cell? w _ hx183_3)).trans hx183_3
                        replace hx183_4 := (HB.out.cell (World.block_lt_of_cell? w _ hx183_4)).trans hx183_4
                        replace hx183_5 := (HB.out.cell (World.block_lt_of_cell? w _ hx183_5)).trans hx183_5
                        have HR183_1 := Aside0.mk hi183_1
                        have HC183_1 := Aside0.mk hl183_1
                        clear hi183_1 hl183_1
                        have HR183_4 := Aside0.mk hi183_4
                        have HC183_4 := Aside0.mk hl183_4
                        clear hi183_4 hl183_4
                        replace p183 := eq_true p183
                        replace q183 := eq_true q183
                        have p184 : 0 ≤ (x6_1 : Int) := of_decide_eq_true (by first | (with_reducible assumption) | assumption)
                        have q184 : x6_1 < (l0_0.length : Int) := of_decide_eq_true (by first | (with_reducible assumption) | assumption)
                        obtain ⟨ad184, A184_1, c184_1, A184_4, c184_4, e184, hx184_0, hx184_1, hx184_2, hx184_3, hx184_4, hx184_5, hl184_1, hi184_1, hl184_4, hi184_4⟩ := at_T40 HR0_0.out x6_1 p184 q184
                        obtain rfl : ad182 = ad184 := (by injection e184)
                        replace hx184_0 := (HB.out.cell (World.block_lt_of_cell? w _ hx184_0)).trans hx184_0
                        replace hx184_1 := (HB.out.cell (World.block_lt_of_cell? w _ hx184_1)).trans hx184_1
                        replace hx184_2 := (HB.out.cell (World.block_lt_of_cell? w _ hx184_2)).trans hx184_2
                        replace hx184_3 := (HB.out.cell (World.block_lt_of_cell? w _ hx184_3)).trans hx184_3
                        replace hx184_4 := (HB.out.cell (World.block_lt_of_cell? w _ hx184_4)).trans hx184_4
                        replace hx184_5 := (HB.out.cell (World.block_lt_of_cell? w _ hx184_5)).trans hx184_5
                        have HR184_1 := Aside0.mk hi184_1
                        have HC184_1 := Aside0.mk hl184_1
                        clear hi184_1 hl184_1
                        have HR184_4 := Aside0.mk hi184_4
                        have HC184_4 := Aside0.mk hl184_4
                        clear hi184_4 hl184_4
                        replace p184 := eq_true p184
                        replace q184 := eq_true q184
                        have ea_ := Option.some.inj (hx183_1.symm.trans hx184_1)
                        injection ea_ with ea_ en_ ec_
                        subst ea_
                        subst ec_
                        clear en_
                        have ea_ := Option.some.inj (hx183_4.symm.trans hx184_4)
                        injection ea_ with ea_ en_ ec_
                        subst ea_
                        subst ec_
                        clear en_
                        have p185 : 0 ≤ (a1 : Int) := of_decide_eq_true (by first | (with_reducible assumption) | assumption)
                        have q185 : a1 < (l0_0.length : Int) := of_decide_eq_true (by first | (with_reducible assumption) | assumption)
                        obtain ⟨ad185, A185_1, c185_1, A185_4, c185_4, e185, hx185_0, hx185_1, hx185_2, hx185_3, hx185_4, hx185_5, hl185_1, hi185_1, hl185_4, hi185_4⟩ := at_T40 HR0_0.out a1 p185 q185
                        obtain rfl : ad182 = ad185 := (by injection e185)
                        replace hx185_0 := (HB.out.cell (World.block_lt_of_cell? w _ hx185_0)).trans hx185_0
                        replace hx185_1 := (HB.out.cell (World.block_lt_of_cell? w _ hx185_1)).trans hx185_1
                        replace hx185_2 := (HB.out.cell (World.block_lt_of_cell? w _ hx185_2)).trans hx185_2
                        replace hx185_3 := (HB.out.cell (World.block_lt_of_cell? w _ hx185_3)).trans hx185_3
                        replace hx185_4 := (HB.out.cell (World.block_lt_of_cell? w _ hx185_4)).trans hx185_4
                        replace hx185_5 := (HB.out.cell (World.block_lt_of_cell? w _ hx185_5)).trans hx185_5
                        have HR185_1 := Aside0.mk hi185_1
                        have HC185_1 := Aside0.mk hl185_1
                        clear hi185_1 hl185_1
                        have HR185_4 := Aside0.mk hi185_4
                        have HC185_4 := Aside0.mk hl185_4
                        clear hi185_4 hl185_4
                        replace p185 := eq_true p185
                        replace q185 := eq_true q185
                        go_wp2
                        repeat (go_quiet (fail); try go_wp2)
                        go_roundg k1
                        case measure => have := HK1.out; omega
                        case rel => exact ⟨(wrap64 (x6_1 + 1)), (by first | rfl | (simp; done) | (simp [*]; done)), H', ⟨by have := HK1.out; omega⟩, ⟨by (with_reducible repeat (first | refine blk_drewN ?_ _ | refine blk_drew ?_ | refine blk_alloc ?_ _)); exact BK181.out⟩, ⟨by repeat (first | (with_reducible first | exact HB.out | apply below_alloc | apply pw_below_drewN | apply below_drew1 | refine below_set ?_ GE181.out) | exact HB.out)⟩⟩
                    · rw [if_neg c12] at H
                      exact absurd H (by simp)
                  · rw [if_neg c11] at H
                    exact absurd H (by simp)
                · rw [if_neg c10] at H
                  have c10b0 : (((rd_T40 l0_0 x6_1).f0) == ((rd_T40 l0_0 a1).f0)) = false := beq_eq_false_iff_ne.mpr c10
                  have c10b1 : (((rd_T40 l0_0 x6_1).f0) != ((rd_T40 l0_0 a1).f0)) = true := bne_iff_ne.mpr c10
                  have H' := Aside0.mk H
                  clear H
                  have hcz20_0 : wr.cell? ⟨gb181, 0, none⟩ = some (.slice (some ad182) l0_0.length c0_0) := (blk_cell BK181.out 0).trans rfl
                  have hcz20_1 : wr.cell? ⟨gb181, 1, none⟩ = some (.int .i64 a0_1) := (blk_cell BK181.out 1).trans rfl
                  have hfz20_0 := blk_frozen BK181.out 0
                  have hfz20_1 := blk_frozen BK181.out 1
                  have p183 : 0 ≤ (x6_1 : Int) := of_decide_eq_true (by first | (with_reducible assumption) | assumption)
                  have q183 : x6_1 < (l0_0.length : Int) := of_decide_eq_true (by first | (with_reducible assumption) | assumption)
                  obtain ⟨ad183, A183_1, c183_1, A183_4, c183_4, e183, hx183_0, hx183_1, hx183_2, hx183_3, hx183_4, hx183_5, hl183_1, hi183_1, hl183_4, hi183_4⟩ := at_T40 HR0_0.out x6_1 p183 q183
                  obtain rfl : ad182 = ad183 := (by injection e183)
                  replace hx183_0 := (HB.out.cell (World.block_lt_of_cell? w _ hx183_0)).trans hx183_0
                  replace hx183_1 := (HB.out.cell (World.block_lt_of_cell? w _ hx183_1)).trans hx183_1
                  replace hx183_2 := (HB.out.cell (World.block_lt_of_cell? w _ hx183_2)).trans hx183_2
                  replace hx183_3 := (HB.out.cell (World.block_lt_of_cell? w _ hx183_3)).trans hx183_3
                  replace hx183_4 := (HB.out.cell (World.block_lt_of_cell? w _ hx183_4)).trans hx183_4
                  replace hx183_5 := (HB.out.cell (World.block_lt_of_cell? w _ hx183_5)).trans hx183_5
                  have HR183_1 := Aside0.mk hi183_1
                  have HC183_1 := Aside0.mk hl183_1
                  clear hi183_1 hl183_1
                  have HR183_4 := Aside0.mk hi183_4
                  have HC183_4 := Aside0.mk hl183_4
                  clear hi183_4 hl183_4
                  replace p183 := eq_true p183
                  replace q183 := eq_true q183
                  go_wp2
                  repeat (go_quiet (fail); try go_wp2)
                  go_roundg k1
                  case measure => have := HK1.out; omega
                  case rel => exact ⟨(wrap64 (x6_1 + 1)), (by first | rfl | (simp; done) | (simp [*]; done)), H', ⟨by have := HK1.out; omega⟩, ⟨by (with_reducible repeat (first | refine blk_drewN ?_ _ | refine blk_drew ?_ | refine blk_alloc ?_ _)); exact BK181.out⟩, ⟨by repeat (first | (with_reducible first | exact HB.out | apply below_alloc | apply pw_below_drewN | apply below_drew1 | refine below_set ?_ GE181.out) | exact HB.out)⟩⟩
              · rw [if_neg c9] at H
                exact absurd H (by simp)
            · rw [if_neg c8] at H
              exact absurd H (by simp)
          · rw [if_neg c7] at H
            have c7b0 : decide (x6_1 < a1) = false := decide_eq_false c7
            clear c7
            obtain rfl := Option.some.inj H
            go_wp2
            repeat (go_quiet (fail); try go_wp2)
            go_ret
            exact ⟨by first | rfl | (simp [errW_none, errW_some] <;> rfl) | (simp [*, errW_none, errW_some] <;> rfl), by repeat (first | (with_reducible first | exact HB.out | apply below_alloc | apply pw_below_drewN | apply below_drew1 | refine below_set ?_ GE181.out) | exact HB.out)⟩
    · rw [if_neg c4] at H
      exact absurd H (by simp)
  · rw [if_neg c3] at H
    exact absurd H (by simp)

end Go.Proofs.Yteanncfmaomhaaa.Ex
