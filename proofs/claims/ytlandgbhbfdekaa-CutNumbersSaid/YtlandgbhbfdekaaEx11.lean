-- Written by a program of this work (wip/given.py) out of the translation; Lean checks it.
import Derived.Test.YtlandgbhbfdekaaEx0
import Derived.Test.YtlandgbhbfdekaaWKept
import Derived.Test.YtlandgbhbfdekaaWN
import Derived.Test.YtlandgbhbfdekaaWShare
import Derived.Test.YtlandgbhbfdekaaWRepsOne
import Derived.Test.YtlandgbhbfdekaaWFoot
import Derived.Test.YtlandgbhbfdekaaWApart
namespace Go.Proofs.Ytlandgbhbfdekaa.Ex
open Go.RowKit Go.Proofs.YtlandgbhbfdekaaW.PrintWords Go.Proofs.YtlandgbhbfdekaaW.PrintLast Go.Proofs.YtlandgbhbfdekaaW.PrintMore
attribute [local go_sem] max2_int min2_int max_two min_two max_three min_three max_four min_four   -- for this text's walks alone
set_option linter.unusedVariables false
set_option linter.unusedSimpArgs false

/-! ### tidemillref05_taken: function 62 -/
def tidemillref05_taken.l0 : Nat → Int → Int → Int → List (S37) → Int → Option (Bool)
  | 0, _, _, _, _, _ => none
  | k + 1, x1, x5, x6, x195000, x195001 => if x6 < x1 then (if 0 ≤ x6 then (if x6 < (x195000.length : Int) then (if ((rd_T37 x195000 x6).f0) = x5 then (if 0 ≤ x1 then (if x1 < (x195000.length : Int) then (if ((rd_T37 x195000 x6).f3) = ((rd_T37 x195000 x1).f3) then (if x5 = 1 then (some true) else (if x5 = 10 then (some true) else (tidemillref05_taken.l0 k x1 x5 (wrap64 (x6 + 1)) x195000 x195001))) else (tidemillref05_taken.l0 k x1 x5 (wrap64 (x6 + 1)) x195000 x195001)) else (none)) else (none)) else (tidemillref05_taken.l0 k x1 x5 (wrap64 (x6 + 1)) x195000 x195001)) else (none)) else (none)) else (some false)
def tidemillref05_taken.f (k : Nat) (l0_0 : List (S37)) (a0_1 : Int) (a1 : Int) : Option (Bool) := if 0 ≤ a1 then (if a1 < (l0_0.length : Int) then (tidemillref05_taken.l0 k a1 ((rd_T37 l0_0 a1).f0) 0 l0_0 a0_1) else (none)) else (none)
theorem tidemillref05_taken.mono_l : ∀ k, (∀ y0 y1 y2 y3 y4, LeO (tidemillref05_taken.l0 k y0 y1 y2 y3 y4) (tidemillref05_taken.l0 (k + 1) y0 y1 y2 y3 y4))
  | 0 => fun _ _ _ _ _ r h => by simp [tidemillref05_taken.l0] at h
  | k + 1 => by
    have ih0 := tidemillref05_taken.mono_l k
    · intro y0 y1 y2 y3 y4
      unfold tidemillref05_taken.l0
      repeat' first
      | (with_reducible exact ih0 _ _ _ _ _)
      | (with_reducible exact LeO.refl _)
      | (with_reducible exact LeO.none _)
      | (with_reducible refine LeO.ite ?_ ?_)
      | (with_reducible refine LeO.bind ?_ (fun _ => ?_))
      | exact ih0 _ _ _ _ _
      | exact LeO.none _
      | refine LeO.ite ?_ ?_
      | refine LeO.bind ?_ (fun _ => ?_)
theorem tidemillref05_taken.mono : ∀ a0 a1 a2 k, LeO (tidemillref05_taken.f k a0 a1 a2) (tidemillref05_taken.f (k + 1) a0 a1 a2) := by
  intro a0 a1 a2 k
  have ih0 := tidemillref05_taken.mono_l k
  unfold tidemillref05_taken.f
  repeat' first
      | (with_reducible exact ih0 _ _ _ _ _)
      | (with_reducible exact LeO.refl _)
      | (with_reducible exact LeO.none _)
      | (with_reducible refine LeO.ite ?_ ?_)
      | (with_reducible refine LeO.bind ?_ (fun _ => ?_))
      | exact ih0 _ _ _ _ _
      | exact LeO.none _
      | refine LeO.ite ?_ ?_
      | refine LeO.bind ?_ (fun _ => ?_)
set_option maxHeartbeats 8000000 in
set_option maxRecDepth 100000 in
theorem tidemillref05_taken.calls (k : Nat) (A0_0 : Option Addr) (c0_0 : Nat) (l0_0 : List (S37)) (a0_1 : Int) (a1 : Int) (r : Bool) (w : World) (hr0_0 : Kd.C k37 w A0_0 l0_0.length l0_0) (hc0_0 : l0_0.length ≤ c0_0) (h : tidemillref05_taken.f k l0_0 a0_1 a1 = some r) :
    Calls Try.prog 62 #[.agg #[.slice A0_0 l0_0.length c0_0, .int .i64 a0_1], .int .i64 a1] w fun e w' => e = .returned (.bool r) ∧ Below w.heap.size w w' := by
  have hu24 := Try.underlying24
  have HR0_0 := Aside0.mk hr0_0
  have HC0_0 := Aside0.mk hc0_0
  clear hr0_0 hc0_0
  have HB := Aside0.mk (Below.refl w.heap.size w)
  have H : (if 0 ≤ a1 then (if a1 < (l0_0.length : Int) then (tidemillref05_taken.l0 k a1 ((rd_T37 l0_0 a1).f0) 0 l0_0 a0_1) else (none)) else (none)) = some r := h
  clear h
  by_cases c3 : 0 ≤ a1
  · rw [if_pos c3] at H
    have c3b0 : decide (0 ≤ a1) = true := decide_eq_true c3
    clear c3
    by_cases c4 : a1 < (l0_0.length : Int)
    · rw [if_pos c4] at H
      have c4b0 : decide (a1 < (l0_0.length : Int)) = true := decide_eq_true c4
      clear c4
      have H' := Aside0.mk H
      clear H
      go_enter Try.func62, Try.ntmps62
      go_wp2_with (first | ((with_reducible refine gate_dst (N := 2) rfl ?_); refine box_event ?hg (N := 2) ?hd (cs := #[.slice A0_0 l0_0.length c0_0, .int .i64 a0_1]) (t := 24) ?hr ?_; (case hd => rfl); (case hg => rfl); (case hr => first | (go_simp; done) | (go_simp; rfl)); intro gb194 hg w5 hbox hb; have n0_ := Aside0.mk (below_step (by repeat (first | (with_reducible first | exact HB.out | apply below_alloc | apply pw_below_drewN | apply below_drew1) | exact HB.out)) hb); have n1_ := Aside0.mk (hbox); have n2_ := Aside0.mk ((by rw [hg]; exact (below_size (by repeat (first | (with_reducible first | exact HB.out | apply below_alloc | apply pw_below_drewN | apply below_drew1) | exact HB.out))) : w.heap.size ≤ gb194)); have n3_ := Aside0.mk ((by rw [hg]; exact (below_size (by repeat (first | (with_reducible first | exact HB.out | apply below_alloc | apply pw_below_drewN | apply below_drew1) | exact HB.out))) : w.heap.size ≤ gb194)); clear HB; have HB := n0_; have BK194 := n1_; have GW194 := n2_; have GE194 := n3_; clear n0_ n1_ n2_ n3_; clear hb hbox hg; have hcz6_0 : w5.cell? ⟨gb194, 0, none⟩ = some (.slice A0_0 l0_0.length c0_0) := (blk_cell BK194.out 0).trans rfl; have hcz6_1 : w5.cell? ⟨gb194, 1, none⟩ = some (.int .i64 a0_1) := (blk_cell BK194.out 1).trans rfl; have hfz6_0 := blk_frozen BK194.out 0; have hfz6_1 := blk_frozen BK194.out 1; have p195 : 0 ≤ (a1 : Int) := of_decide_eq_true (by first | (with_reducible assumption) | assumption); have q195 : a1 < (l0_0.length : Int) := of_decide_eq_true (by first | (with_reducible assumption) | assumption); obtain ⟨ad195, A195_1, c195_1, A195_4, c195_4, e195, hx195_0, hx195_1, hx195_2, hx195_3, hx195_4, hx195_5, hl195_1, hi195_1, hl195_4, hi195_4⟩ := at_T37 HR0_0.out a1 p195 q195; cases e195; replace hx195_0 := (HB.out.cell (World.block_lt_of_cell? w _ hx195_0)).trans hx195_0; replace hx195_1 := (HB.out.cell (World.block_lt_of_cell? w _ hx195_1)).trans hx195_1; replace hx195_2 := (HB.out.cell (World.block_lt_of_cell? w _ hx195_2)).trans hx195_2; replace hx195_3 := (HB.out.cell (World.block_lt_of_cell? w _ hx195_3)).trans hx195_3; replace hx195_4 := (HB.out.cell (World.block_lt_of_cell? w _ hx195_4)).trans hx195_4; replace hx195_5 := (HB.out.cell (World.block_lt_of_cell? w _ hx195_5)).trans hx195_5; have HR195_1 := Aside0.mk hi195_1; have HC195_1 := Aside0.mk hl195_1; clear hi195_1 hl195_1; have HR195_4 := Aside0.mk hi195_4; have HC195_4 := Aside0.mk hl195_4; clear hi195_4 hl195_4; replace p195 := eq_true p195; replace q195 := eq_true q195))
      repeat (go_quiet (first | ((with_reducible refine gate_dst (N := 2) rfl ?_); refine box_event ?hg (N := 2) ?hd (cs := #[.slice A0_0 l0_0.length c0_0, .int .i64 a0_1]) (t := 24) ?hr ?_; (case hd => rfl); (case hg => rfl); (case hr => first | (go_simp; done) | (go_simp; rfl)); intro gb194 hg w5 hbox hb; have n0_ := Aside0.mk (below_step (by repeat (first | (with_reducible first | exact HB.out | apply below_alloc | apply pw_below_drewN | apply below_drew1) | exact HB.out)) hb); have n1_ := Aside0.mk (hbox); have n2_ := Aside0.mk ((by rw [hg]; exact (below_size (by repeat (first | (with_reducible first | exact HB.out | apply below_alloc | apply pw_below_drewN | apply below_drew1) | exact HB.out))) : w.heap.size ≤ gb194)); have n3_ := Aside0.mk ((by rw [hg]; exact (below_size (by repeat (first | (with_reducible first | exact HB.out | apply below_alloc | apply pw_below_drewN | apply below_drew1) | exact HB.out))) : w.heap.size ≤ gb194)); clear HB; have HB := n0_; have BK194 := n1_; have GW194 := n2_; have GE194 := n3_; clear n0_ n1_ n2_ n3_; clear hb hbox hg; have hcz6_0 : w5.cell? ⟨gb194, 0, none⟩ = some (.slice A0_0 l0_0.length c0_0) := (blk_cell BK194.out 0).trans rfl; have hcz6_1 : w5.cell? ⟨gb194, 1, none⟩ = some (.int .i64 a0_1) := (blk_cell BK194.out 1).trans rfl; have hfz6_0 := blk_frozen BK194.out 0; have hfz6_1 := blk_frozen BK194.out 1; have p195 : 0 ≤ (a1 : Int) := of_decide_eq_true (by first | (with_reducible assumption) | assumption); have q195 : a1 < (l0_0.length : Int) := of_decide_eq_true (by first | (with_reducible assumption) | assumption); obtain ⟨ad195, A195_1, c195_1, A195_4, c195_4, e195, hx195_0, hx195_1, hx195_2, hx195_3, hx195_4, hx195_5, hl195_1, hi195_1, hl195_4, hi195_4⟩ := at_T37 HR0_0.out a1 p195 q195; cases e195; replace hx195_0 := (HB.out.cell (World.block_lt_of_cell? w _ hx195_0)).trans hx195_0; replace hx195_1 := (HB.out.cell (World.block_lt_of_cell? w _ hx195_1)).trans hx195_1; replace hx195_2 := (HB.out.cell (World.block_lt_of_cell? w _ hx195_2)).trans hx195_2; replace hx195_3 := (HB.out.cell (World.block_lt_of_cell? w _ hx195_3)).trans hx195_3; replace hx195_4 := (HB.out.cell (World.block_lt_of_cell? w _ hx195_4)).trans hx195_4; replace hx195_5 := (HB.out.cell (World.block_lt_of_cell? w _ hx195_5)).trans hx195_5; have HR195_1 := Aside0.mk hi195_1; have HC195_1 := Aside0.mk hl195_1; clear hi195_1 hl195_1; have HR195_4 := Aside0.mk hi195_4; have HC195_4 := Aside0.mk hl195_4; clear hi195_4 hl195_4; replace p195 := eq_true p195; replace q195 := eq_true q195)); try go_wp2_with (first | ((with_reducible refine gate_dst (N := 2) rfl ?_); refine box_event ?hg (N := 2) ?hd (cs := #[.slice A0_0 l0_0.length c0_0, .int .i64 a0_1]) (t := 24) ?hr ?_; (case hd => rfl); (case hg => rfl); (case hr => first | (go_simp; done) | (go_simp; rfl)); intro gb194 hg w5 hbox hb; have n0_ := Aside0.mk (below_step (by repeat (first | (with_reducible first | exact HB.out | apply below_alloc | apply pw_below_drewN | apply below_drew1) | exact HB.out)) hb); have n1_ := Aside0.mk (hbox); have n2_ := Aside0.mk ((by rw [hg]; exact (below_size (by repeat (first | (with_reducible first | exact HB.out | apply below_alloc | apply pw_below_drewN | apply below_drew1) | exact HB.out))) : w.heap.size ≤ gb194)); have n3_ := Aside0.mk ((by rw [hg]; exact (below_size (by repeat (first | (with_reducible first | exact HB.out | apply below_alloc | apply pw_below_drewN | apply below_drew1) | exact HB.out))) : w.heap.size ≤ gb194)); clear HB; have HB := n0_; have BK194 := n1_; have GW194 := n2_; have GE194 := n3_; clear n0_ n1_ n2_ n3_; clear hb hbox hg; have hcz6_0 : w5.cell? ⟨gb194, 0, none⟩ = some (.slice A0_0 l0_0.length c0_0) := (blk_cell BK194.out 0).trans rfl; have hcz6_1 : w5.cell? ⟨gb194, 1, none⟩ = some (.int .i64 a0_1) := (blk_cell BK194.out 1).trans rfl; have hfz6_0 := blk_frozen BK194.out 0; have hfz6_1 := blk_frozen BK194.out 1; have p195 : 0 ≤ (a1 : Int) := of_decide_eq_true (by first | (with_reducible assumption) | assumption); have q195 : a1 < (l0_0.length : Int) := of_decide_eq_true (by first | (with_reducible assumption) | assumption); obtain ⟨ad195, A195_1, c195_1, A195_4, c195_4, e195, hx195_0, hx195_1, hx195_2, hx195_3, hx195_4, hx195_5, hl195_1, hi195_1, hl195_4, hi195_4⟩ := at_T37 HR0_0.out a1 p195 q195; cases e195; replace hx195_0 := (HB.out.cell (World.block_lt_of_cell? w _ hx195_0)).trans hx195_0; replace hx195_1 := (HB.out.cell (World.block_lt_of_cell? w _ hx195_1)).trans hx195_1; replace hx195_2 := (HB.out.cell (World.block_lt_of_cell? w _ hx195_2)).trans hx195_2; replace hx195_3 := (HB.out.cell (World.block_lt_of_cell? w _ hx195_3)).trans hx195_3; replace hx195_4 := (HB.out.cell (World.block_lt_of_cell? w _ hx195_4)).trans hx195_4; replace hx195_5 := (HB.out.cell (World.block_lt_of_cell? w _ hx195_5)).trans hx195_5; have HR195_1 := Aside0.mk hi195_1; have HC195_1 := Aside0.mk hl195_1; clear hi195_1 hl195_1; have HR195_4 := Aside0.mk hi195_4; have HC195_4 := Aside0.mk hl195_4; clear hi195_4 hl195_4; replace p195 := eq_true p195; replace q195 := eq_true q195)))
      go_loopg [6] k (fun kq v6 w' => ∃ (x6_1 : Int), v6 = .int .i64 x6_1 ∧ Aside0 (tidemillref05_taken.l0 kq a1 ((rd_T37 l0_0 a1).f0) x6_1 l0_0 a0_1 = some r) ∧ Aside0 (kq ≤ k) ∧ Aside0 (w'.heap[gb194]? = some (.cells #[(.slice (some ad195) l0_0.length c0_0), .int .i64 a0_1] 24 (0, 0))) ∧ Aside0 (Below w.heap.size w w'))
      case atStart => exact ⟨(0), (by first | rfl | (simp; done) | (simp [*]; done)), H', ⟨Nat.le_refl _⟩, ⟨by (with_reducible repeat (first | refine blk_drewN ?_ _ | refine blk_drew ?_ | refine blk_alloc ?_ _)); exact BK194.out⟩, ⟨by repeat (first | (with_reducible first | exact HB.out | apply below_alloc | apply pw_below_drewN | apply below_drew1 | refine below_set ?_ GE194.out) | exact HB.out)⟩⟩
      case round =>
        clear H'
        try clear c1
        try clear p1
        try clear q1
        try clear hx1
        try clear p2
        try clear c3
        try clear c3b0
        try clear c4
        try clear c4b0
        try clear c6
        try clear hcz6_0
        try clear hcz6_1
        try clear hfz6_0
        try clear hfz6_1
        try clear hx195_0
        try clear hx195_1
        try clear hx195_2
        try clear hx195_3
        try clear hx195_4
        try clear hx195_5
        try clear p195
        try clear q195
        obtain ⟨x6_1, rfl, HA, HK1, BK194, HB⟩ := hrel
        cases gk with
        | zero => exact absurd HA.out (by simp [tidemillref05_taken.l0])
        | succ k1 =>
          have H := HA.out
          clear HA
          simp only [tidemillref05_taken.l0] at H
          by_cases c7 : x6_1 < a1
          · rw [if_pos c7] at H
            have c7b0 : decide (x6_1 < a1) = true := decide_eq_true c7
            clear c7
            by_cases c8 : 0 ≤ x6_1
            · rw [if_pos c8] at H
              have c8b0 : decide (0 ≤ x6_1) = true := decide_eq_true c8
              clear c8
              by_cases c9 : x6_1 < (l0_0.length : Int)
              · rw [if_pos c9] at H
                have c9b0 : decide (x6_1 < (l0_0.length : Int)) = true := decide_eq_true c9
                clear c9
                by_cases c10 : ((rd_T37 l0_0 x6_1).f0) = ((rd_T37 l0_0 a1).f0)
                · rw [if_pos c10] at H
                  have c10b0 : (((rd_T37 l0_0 x6_1).f0) == ((rd_T37 l0_0 a1).f0)) = true := beq_iff_eq.mpr c10
                  have c10b1 : (((rd_T37 l0_0 x6_1).f0) != ((rd_T37 l0_0 a1).f0)) = false := bne_eq_false_iff_eq.mpr c10
                  clear c10
                  by_cases c11 : 0 ≤ a1
                  · rw [if_pos c11] at H
                    have c11b0 : decide (0 ≤ a1) = true := decide_eq_true c11
                    clear c11
                    by_cases c12 : a1 < (l0_0.length : Int)
                    · rw [if_pos c12] at H
                      have c12b0 : decide (a1 < (l0_0.length : Int)) = true := decide_eq_true c12
                      clear c12
                      by_cases c13 : ((rd_T37 l0_0 x6_1).f3) = ((rd_T37 l0_0 a1).f3)
                      · rw [if_pos c13] at H
                        have c13b0 : (((rd_T37 l0_0 x6_1).f3) == ((rd_T37 l0_0 a1).f3)) = true := beq_iff_eq.mpr c13
                        have c13b1 : (((rd_T37 l0_0 x6_1).f3) != ((rd_T37 l0_0 a1).f3)) = false := bne_eq_false_iff_eq.mpr c13
                        clear c13
                        by_cases c14 : ((rd_T37 l0_0 a1).f0) = 1
                        · rw [if_pos c14] at H
                          have c14b0 : (((rd_T37 l0_0 a1).f0) == 1) = true := beq_iff_eq.mpr c14
                          have c14b1 : (((rd_T37 l0_0 a1).f0) != 1) = false := bne_eq_false_iff_eq.mpr c14
                          clear c14
                          obtain rfl := Option.some.inj H
                          have hcz15_0 : wr.cell? ⟨gb194, 0, none⟩ = some (.slice (some ad195) l0_0.length c0_0) := (blk_cell BK194.out 0).trans rfl
                          have hcz15_1 : wr.cell? ⟨gb194, 1, none⟩ = some (.int .i64 a0_1) := (blk_cell BK194.out 1).trans rfl
                          have hfz15_0 := blk_frozen BK194.out 0
                          have hfz15_1 := blk_frozen BK194.out 1
                          have p196 : 0 ≤ (x6_1 : Int) := of_decide_eq_true (by first | (with_reducible assumption) | assumption)
                          have q196 : x6_1 < (l0_0.length : Int) := of_decide_eq_true (by first | (with_reducible assumption) | assumption)
                          obtain ⟨ad196, A196_1, c196_1, A196_4, c196_4, e196, hx196_0, hx196_1, hx196_2, hx196_3, hx196_4, hx196_5, hl196_1, hi196_1, hl196_4, hi196_4⟩ := at_T37 HR0_0.out x6_1 p196 q196
                          obtain rfl : ad195 = ad196 := (by injection e196)
                          replace hx196_0 := (HB.out.cell (World.block_lt_of_cell? w _ hx196_0)).trans hx196_0
                          replace hx196_1 := (HB.out.cell (World.block_lt_of_cell? w _ hx196_1)).trans hx196_1
                          replace hx196_2 := (HB.out.cell (World.block_lt_of_cell? w _ hx196_2)).trans hx196_2
                          replace hx196_3 := (HB.out.cell (World.block_lt_of_cell? w _ hx196_3)).trans hx196_3
                          replace hx196_4 := (HB.out.cell (World.block_lt_of_cell? w _ hx196_4)).trans hx196_4
                          replace hx196_5 := (HB.out.cell (World.block_lt_of_cell? w _ hx196_5)).trans hx196_5
                          have HR196_1 := Aside0.mk hi196_1
                          have HC196_1 := Aside0.mk hl196_1
                          clear hi196_1 hl196_1
                          have HR196_4 := Aside0.mk hi196_4
                          have HC196_4 := Aside0.mk hl196_4
                          clear hi196_4 hl196_4
                          replace p196 := eq_true p196
                          replace q196 := eq_true q196
                          have p197 : 0 ≤ (x6_1 : Int) := of_decide_eq_true (by first | (with_reducible assumption) | assumption)
                          have q197 : x6_1 < (l0_0.length : Int) := of_decide_eq_true (by first | (with_reducible assumption) | assumption)
                          obtain ⟨ad197, A197_1, c197_1, A197_4, c197_4, e197, hx197_0, hx197_1, hx197_2, hx197_3, hx197_4, hx197_5, hl197_1, hi197_1, hl197_4, hi197_4⟩ := at_T37 HR0_0.out x6_1 p197 q197
                          obtain rfl : ad195 = ad197 := (by injection e197)
                          replace hx197_0 := (HB.out.cell (World.block_lt_of_cell? w _ hx197_0)).trans hx197_0
                          replace hx197_1 := (HB.out.cell (World.block_lt_of_cell? w _ hx197_1)).trans hx197_1
                          replace hx197_2 := (HB.out.cell (World.block_lt_of_cell? w _ hx197_2)).trans hx197_2
                          replace hx197_3 := (HB.out.cell (World.block_lt_of_cell? w _ hx197_3)).trans hx197_3
                          replace hx197_4 := (HB.out.cell (World.block_lt_of_cell? w _ hx197_4)).trans hx197_4
                          replace hx197_5 := (HB.out.cell (World.block_lt_of_cell? w _ hx197_5)).trans hx197_5
                          have HR197_1 := Aside0.mk hi197_1
                          have HC197_1 := Aside0.mk hl197_1
                          clear hi197_1 hl197_1
                          have HR197_4 := Aside0.mk hi197_4
                          have HC197_4 := Aside0.mk hl197_4
                          clear hi197_4 hl197_4
                          replace p197 := eq_true p197
                          replace q197 := eq_true q197
                          have ea_ := Option.some.inj (hx196_1.symm.trans hx197_1)
                          injection ea_ with ea_ en_ ec_
                          subst ea_
                          subst ec_
                          clear en_
                          have ea_ := Option.some.inj (hx196_4.symm.trans hx197_4)
                          injection ea_ with ea_ en_ ec_
                          subst ea_
                          subst ec_
                          clear en_
                          have p198 : 0 ≤ (a1 : Int) := of_decide_eq_true (by first | (with_reducible assumption) | assumption)
                          have q198 : a1 < (l0_0.length : Int) := of_decide_eq_true (by first | (with_reducible assumption) | assumption)
                          obtain ⟨ad198, A198_1, c198_1, A198_4, c198_4, e198, hx198_0, hx198_1, hx198_2, hx198_3, hx198_4, hx198_5, hl198_1, hi198_1, hl198_4, hi198_4⟩ := at_T37 HR0_0.out a1 p198 q198
                          obtain rfl : ad195 = ad198 := (by injection e198)
                          replace hx198_0 := (HB.out.cell (World.block_lt_of_cell? w _ hx198_0)).trans hx198_0
                          replace hx198_1 := (HB.out.cell (World.block_lt_of_cell? w _ hx198_1)).trans hx198_1
                          replace hx198_2 := (HB.out.cell (World.block_lt_of_cell? w _ hx198_2)).trans hx198_2
                          replace hx198_3 := (HB.out.cell (World.block_lt_of_cell? w _ hx198_3)).trans hx198_3
                          replace hx198_4 := (HB.out.cell (World.block_lt_of_cell? w _ hx198_4)).trans hx198_4
                          replace hx198_5 := (HB.out.cell (World.block_lt_of_cell? w _ hx198_5)).trans hx198_5
                          have HR198_1 := Aside0.mk hi198_1
                          have HC198_1 := Aside0.mk hl198_1
                          clear hi198_1 hl198_1
                          have HR198_4 := Aside0.mk hi198_4
                          have HC198_4 := Aside0.mk hl198_4
                          clear hi198_4 hl198_4
                          replace p198 := eq_true p198
                          replace q198 := eq_true q198
                          go_wp2
                          repeat (go_quiet (fail); try go_wp2)
                          go_ret
                          exact ⟨by first | rfl | (simp [errW_none, errW_some] <;> rfl) | (simp [*, errW_none, errW_some] <;> rfl), by repeat (first | (with_reducible first | exact HB.out | apply below_alloc | apply pw_below_drewN | apply below_drew1 | refine below_set ?_ GE194.out) | exact HB.out)⟩
                        · rw [if_neg c14] at H
                          have c14b0 : (((rd_T37 l0_0 a1).f0) == 1) = false := beq_eq_false_iff_ne.mpr c14
                          have c14b1 : (((rd_T37 l0_0 a1).f0) != 1) = true := bne_iff_ne.mpr c14
                          by_cases c16 : ((rd_T37 l0_0 a1).f0) = 10
                          · rw [if_pos c16] at H
                            have c16b0 : (((rd_T37 l0_0 a1).f0) == 10) = true := beq_iff_eq.mpr c16
                            have c16b1 : (((rd_T37 l0_0 a1).f0) != 10) = false := bne_eq_false_iff_eq.mpr c16
                            clear c16
                            obtain rfl := Option.some.inj H
                            have hcz17_0 : wr.cell? ⟨gb194, 0, none⟩ = some (.slice (some ad195) l0_0.length c0_0) := (blk_cell BK194.out 0).trans rfl
                            have hcz17_1 : wr.cell? ⟨gb194, 1, none⟩ = some (.int .i64 a0_1) := (blk_cell BK194.out 1).trans rfl
                            have hfz17_0 := blk_frozen BK194.out 0
                            have hfz17_1 := blk_frozen BK194.out 1
                            have p196 : 0 ≤ (x6_1 : Int) := of_decide_eq_true (by first | (with_reducible assumption) | assumption)
                            have q196 : x6_1 < (l0_0.length : Int) := of_decide_eq_true (by first | (with_reducible assumption) | assumption)
                            obtain ⟨ad196, A196_1, c196_1, A196_4, c196_4, e196, hx196_0, hx196_1, hx196_2, hx196_3, hx196_4, hx196_5, hl196_1, hi196_1, hl196_4, hi196_4⟩ := at_T37 HR0_0.out x6_1 p196 q196
                            obtain rfl : ad195 = ad196 := (by injection e196)
                            replace hx196_0 := (HB.out.cell (World.block_lt_of_cell? w _ hx196_0)).trans hx196_0
                            replace hx196_1 := (HB.out.cell (World.block_lt_of_cell? w _ hx196_1)).trans hx196_1
                            replace hx196_2 := (HB.out.cell (World.block_lt_of_cell? w _ hx196_2)).trans hx196_2
                            replace hx196_3 := (HB.out.cell (World.block_lt_of_cell? w _ hx196_3)).trans hx196_3
                            replace hx196_4 := (HB.out.cell (World.block_lt_of_cell? w _ hx196_4)).trans hx196_4
                            replace hx196_5 := (HB.out.cell (World.block_lt_of_cell? w _ hx196_5)).trans hx196_5
                            have HR196_1 := Aside0.mk hi196_1
                            have HC196_1 := Aside0.mk hl196_1
                            clear hi196_1 hl196_1
                            have HR196_4 := Aside0.mk hi196_4
                            have HC196_4 := Aside0.mk hl196_4
                            clear hi196_4 hl196_4
                            replace p196 := eq_true p196
                            replace q196 := eq_true q196
                            have p197 : 0 ≤ (x6_1 : Int) := of_decide_eq_true (by first | (with_reducible assumption) | assumption)
                            have q197 : x6_1 < (l0_0.length : Int) := of_decide_eq_true (by first | (with_reducible assumption) | assumption)
                            obtain ⟨ad197, A197_1, c197_1, A197_4, c197_4, e197, hx197_0, hx197_1, hx197_2, hx197_3, hx197_4, hx197_5, hl197_1, hi197_1, hl197_4, hi197_4⟩ := at_T37 HR0_0.out x6_1 p197 q197
                            obtain rfl : ad195 = ad197 := (by injection e197)
                            replace hx197_0 := (HB.out.cell (World.block_lt_of_cell? w _ hx197_0)).trans hx197_0
                            replace hx197_1 := (HB.out.cell (World.block_lt_of_cell? w _ hx197_1)).trans hx197_1
                            replace hx197_2 := (HB.out.cell (World.block_lt_of_cell? w _ hx197_2)).trans hx197_2
                            replace hx197_3 := (HB.out.cell (World.block_lt_of_cell? w _ hx197_3)).trans hx197_3
                            replace hx197_4 := (HB.out.cell (World.block_lt_of_cell? w _ hx197_4)).trans hx197_4
                            replace hx197_5 := (HB.out.cell (World.block_lt_of_cell? w _ hx197_5)).trans hx197_5
                            have HR197_1 := Aside0.mk hi197_1
                            have HC197_1 := Aside0.mk hl197_1
                            clear hi197_1 hl197_1
                            have HR197_4 := Aside0.mk hi197_4
                            have HC197_4 := Aside0.mk hl197_4
                            clear hi197_4 hl197_4
                            replace p197 := eq_true p197
                            replace q197 := eq_true q197
                            have ea_ := Option.some.inj (hx196_1.symm.trans hx197_1)
                            injection ea_ with ea_ en_ ec_
                            subst ea_
                            subst ec_
                            clear en_
                            have ea_ := Option.some.inj (hx196_4.symm.trans hx197_4)
                            injection ea_ with ea_ en_ ec_
                            subst ea_
                            subst ec_
                            clear en_
                            have p198 : 0 ≤ (a1 : Int) := of_decide_eq_true (by first | (with_reducible assumption) | assumption)
                            have q198 : a1 < (l0_0.length : Int) := of_decide_eq_true (by first | (with_reducible assumption) | assumption)
                            obtain ⟨ad198, A198_1, c198_1, A198_4, c198_4, e198, hx198_0, hx198_1, hx198_2, hx198_3, hx198_4, hx198_5, hl198_1, hi198_1, hl198_4, hi198_4⟩ := at_T37 HR0_0.out a1 p198 q198
                            obtain rfl : ad195 = ad198 := (by injection e198)
                            replace hx198_0 := (HB.out.cell (World.block_lt_of_cell? w _ hx198_0)).trans hx198_0
                            replace hx198_1 := (HB.out.cell (World.block_lt_of_cell? w _ hx198_1)).trans hx198_1
                            replace hx198_2 := (HB.out.cell (World.block_lt_of_cell? w _ hx198_2)).trans hx198_2
                            replace hx198_3 := (HB.out.cell (World.block_lt_of_cell? w _ hx198_3)).trans hx198_3
                            replace hx198_4 := (HB.out.cell (World.block_lt_of_cell? w _ hx198_4)).trans hx198_4
                            replace hx198_5 := (HB.out.cell (World.block_lt_of_cell? w _ hx198_5)).trans hx198_5
                            have HR198_1 := Aside0.mk hi198_1
                            have HC198_1 := Aside0.mk hl198_1
                            clear hi198_1 hl198_1
                            have HR198_4 := Aside0.mk hi198_4
                            have HC198_4 := Aside0.mk hl198_4
                            clear hi198_4 hl198_4
                            replace p198 := eq_true p198
                            replace q198 := eq_true q198
                            go_wp2
                            repeat (go_quiet (fail); try go_wp2)
                            go_ret
                            exact ⟨by first | rfl | (simp [errW_none, errW_some] <;> rfl) | (simp [*, errW_none, errW_some] <;> rfl), by repeat (first | (with_reducible first | exact HB.out | apply below_alloc | apply pw_below_drewN | apply below_drew1 | refine below_set ?_ GE194.out) | exact HB.out)⟩
                          · rw [if_neg c16] at H
                            have c16b0 : (((rd_T37 l0_0 a1).f0) == 10) = false := beq_eq_false_iff_ne.mpr c16
                            have c16b1 : (((rd_T37 l0_0 a1).f0) != 10) = true := bne_iff_ne.mpr c16
                            have H' := Aside0.mk H
                            clear H
                            have hcz18_0 : wr.cell? ⟨gb194, 0, none⟩ = some (.slice (some ad195) l0_0.length c0_0) := (blk_cell BK194.out 0).trans rfl
                            have hcz18_1 : wr.cell? ⟨gb194, 1, none⟩ = some (.int .i64 a0_1) := (blk_cell BK194.out 1).trans rfl
                            have hfz18_0 := blk_frozen BK194.out 0
                            have hfz18_1 := blk_frozen BK194.out 1
                            have p196 : 0 ≤ (x6_1 : Int) := of_decide_eq_true (by first | (with_reducible assumption) | assumption)
                            have q196 : x6_1 < (l0_0.length : Int) := of_decide_eq_true (by first | (with_reducible assumption) | assumption)
                            obtain ⟨ad196, A196_1, c196_1, A196_4, c196_4, e196, hx196_0, hx196_1, hx196_2, hx196_3, hx196_4, hx196_5, hl196_1, hi196_1, hl196_4, hi196_4⟩ := at_T37 HR0_0.out x6_1 p196 q196
                            obtain rfl : ad195 = ad196 := (by injection e196)
                            replace hx196_0 := (HB.out.cell (World.block_lt_of_cell? w _ hx196_0)).trans hx196_0
                            replace hx196_1 := (HB.out.cell (World.block_lt_of_cell? w _ hx196_1)).trans hx196_1
                            replace hx196_2 := (HB.out.cell (World.block_lt_of_cell? w _ hx196_2)).trans hx196_2
                            replace hx196_3 := (HB.out.cell (World.block_lt_of_cell? w _ hx196_3)).trans hx196_3
                            replace hx196_4 := (HB.out.cell (World.block_lt_of_cell? w _ hx196_4)).trans hx196_4
                            replace hx196_5 := (HB.out.cell (World.block_lt_of_cell? w _ hx196_5)).trans hx196_5
                            have HR196_1 := Aside0.mk hi196_1
                            have HC196_1 := Aside0.mk hl196_1
                            clear hi196_1 hl196_1
                            have HR196_4 := Aside0.mk hi196_4
                            have HC196_4 := Aside0.mk hl196_4
                            clear hi196_4 hl196_4
                            replace p196 := eq_true p196
                            replace q196 := eq_true q196
                            have p197 : 0 ≤ (x6_1 : Int) := of_decide_eq_true (by first | (with_reducible assumption) | assumption)
                            have q197 : x6_1 < (l0_0.length : Int) := of_decide_eq_true (by first | (with_reducible assumption) | assumption)
                            obtain ⟨ad197, A197_1, c197_1, A197_4, c197_4, e197, hx197_0, hx197_1, hx197_2, hx197_3, hx197_4, hx197_5, hl197_1, hi197_1, hl197_4, hi197_4⟩ := at_T37 HR0_0.out x6_1 p197 q197
                            obtain rfl : ad195 = ad197 := (by injection e197)
                            replace hx197_0 := (HB.out.cell (World.block_lt_of_cell? w _ hx197_0)).trans hx197_0
                            replace hx197_1 := (HB.out.cell (World.block_lt_of_cell? w _ hx197_1)).trans hx197_1
                            replace hx197_2 := (HB.out.cell (World.block_lt_of_cell? w _ hx197_2)).trans hx197_2
                            replace hx197_3 := (HB.out.cell (World.block_lt_of_cell? w _ hx197_3)).trans hx197_3
                            replace hx197_4 := (HB.out.cell (World.block_lt_of_cell? w _ hx197_4)).trans hx197_4
                            replace hx197_5 := (HB.out.cell (World.block_lt_of_cell? w _ hx197_5)).trans hx197_5
                            have HR197_1 := Aside0.mk hi197_1
                            have HC197_1 := Aside0.mk hl197_1
                            clear hi197_1 hl197_1
                            have HR197_4 := Aside0.mk hi197_4
                            have HC197_4 := Aside0.mk hl197_4
                            clear hi197_4 hl197_4
                            replace p197 := eq_true p197
                            replace q197 := eq_true q197
                            have ea_ := Option.some.inj (hx196_1.symm.trans hx197_1)
                            injection ea_ with ea_ en_ ec_
                            subst ea_
                            subst ec_
                            clear en_
                            have ea_ := Option.some.inj (hx196_4.symm.trans hx197_4)
                            injection ea_ with ea_ en_ ec_
                            subst ea_
                            subst ec_
                            clear en_
                            have p198 : 0 ≤ (a1 : Int) := of_decide_eq_true (by first | (with_reducible assumption) | assumption)
                            have q198 : a1 < (l0_0.length : Int) := of_decide_eq_true (by first | (with_reducible assumption) | assumption)
                            obtain ⟨ad198, A198_1, c198_1, A198_4, c198_4, e198, hx198_0, hx198_1, hx198_2, hx198_3, hx198_4, hx198_5, hl198_1, hi198_1, hl198_4, hi198_4⟩ := at_T37 HR0_0.out a1 p198 q198
                            obtain rfl : ad195 = ad198 := (by injection e198)
                            replace hx198_0 := (HB.out.cell (World.block_lt_of_cell? w _ hx198_0)).trans hx198_0
                            replace hx198_1 := (HB.out.cell (World.block_lt_of_cell? w _ hx198_1)).trans hx198_1
                            replace hx198_2 := (HB.out.cell (World.block_lt_of_cell? w _ hx198_2)).trans hx198_2
                            replace hx198_3 := (HB.out.cell (World.block_lt_of_cell? w _ hx198_3)).trans hx198_3
                            replace hx198_4 := (HB.out.cell (World.block_lt_of_cell? w _ hx198_4)).trans hx198_4
                            replace hx198_5 := (HB.out.cell (World.block_lt_of_cell? w _ hx198_5)).trans hx198_5
                            have HR198_1 := Aside0.mk hi198_1
                            have HC198_1 := Aside0.mk hl198_1
                            clear hi198_1 hl198_1
                            have HR198_4 := Aside0.mk hi198_4
                            have HC198_4 := Aside0.mk hl198_4
                            clear hi198_4 hl198_4
                            replace p198 := eq_true p198
                            replace q198 := eq_true q198
                            go_wp2
                            repeat (go_quiet (fail); try go_wp2)
                            go_roundg k1
                            case measure => have := HK1.out; omega
                            case rel => exact ⟨(wrap64 (x6_1 + 1)), (by first | rfl | (simp; done) | (simp [*]; done)), H', ⟨by have := HK1.out; omega⟩, ⟨by (with_reducible repeat (first | refine blk_drewN ?_ _ | refine blk_drew ?_ | refine blk_alloc ?_ _)); exact BK194.out⟩, ⟨by repeat (first | (with_reducible first | exact HB.out | apply below_alloc | apply pw_below_drewN | apply below_drew1 | refine below_set ?_ GE194.out) | exact HB.out)⟩⟩
                      · rw [if_neg c13] at H
                        have c13b0 : (((rd_T37 l0_0 x6_1).f3) == ((rd_T37 l0_0 a1).f3)) = false := beq_eq_false_iff_ne.mpr c13
                        have c13b1 : (((rd_T37 l0_0 x6_1).f3) != ((rd_T37 l0_0 a1).f3)) = true := bne_iff_ne.mpr c13
                        have H' := Aside0.mk H
                        clear H
                        have hcz19_0 : wr.cell? ⟨gb194, 0, none⟩ = some (.slice (some ad195) l0_0.length c0_0) := (blk_cell BK194.out 0).trans rfl
                        have hcz19_1 : wr.cell? ⟨gb194, 1, none⟩ = some (.int .i64 a0_1) := (blk_cell BK194.out 1).trans rfl
                        have hfz19_0 := blk_frozen BK194.out 0
                        have hfz19_1 := blk_frozen BK194.out 1
                        have p196 : 0 ≤ (x6_1 : Int) := of_decide_eq_true (by first | (with_reducible assumption) | assumption)
                        have q196 : x6_1 < (l0_0.length : Int) := of_decide_eq_true (by first | (with_reducible assumption) | assumption)
                        obtain ⟨ad196, A196_1, c196_1, A196_4, c196_4, e196, hx196_0, hx196_1, hx196_2, hx196_3, hx196_4, hx196_5, hl196_1, hi196_1, hl196_4, hi196_4⟩ := at_T37 HR0_0.out x6_1 p196 q196
                        obtain rfl : ad195 = ad196 := (by injection e196)
                        replace hx196_0 := (HB.out.cell (World.block_lt_of_cell? w _ hx196_0)).trans hx196_0
                        replace hx196_1 := (HB.out.cell (World.block_lt_of_cell? w _ hx196_1)).trans hx196_1
                        replace hx196_2 := (HB.out.cell (World.block_lt_of_cell? w _ hx196_2)).trans hx196_2
                        replace hx196_3 := (HB.out.cell (World.block_lt_of_cell? w _ hx196_3)).trans hx196_3
                        replace hx196_4 := (HB.out.cell (World.block_lt_of_cell? w _ hx196_4)).trans hx196_4
                        replace hx196_5 := (HB.out.cell (World.block_lt_of_cell? w _ hx196_5)).trans hx196_5
                        have HR196_1 := Aside0.mk hi196_1
                        have HC196_1 := Aside0.mk hl196_1
                        clear hi196_1 hl196_1
                        have HR196_4 := Aside0.mk hi196_4
                        have HC196_4 := Aside0.mk hl196_4
                        clear hi196_4 hl196_4
                        replace p196 := eq_true p196
                        replace q196 := eq_true q196
                        have p197 : 0 ≤ (x6_1 : Int) := of_decide_eq_true (by first | (with_reducible assumption) | assumption)
                        have q197 : x6_1 < (l0_0.length : Int) := of_decide_eq_true (by first | (with_reducible assumption) | assumption)
                        obtain ⟨ad197, A197_1, c197_1, A197_4, c197_4, e197, hx197_0, hx197_1, hx197_2, hx197_3, hx197_4, hx197_5, hl197_1, hi197_1, hl197_4, hi197_4⟩ := at_T37 HR0_0.out x6_1 p197 q197
                        obtain rfl : ad195 = ad197 := (by injection e197)
                        replace hx197_0 := (HB.out.cell (World.block_lt_of_cell? w _ hx197_0)).trans hx197_0
                        replace hx197_1 := (HB.out.cell (World.block_lt_of_cell? w _ hx197_1)).trans hx197_1
                        replace hx197_2 := (HB.out.cell (World.block_lt_of_cell? w _ hx197_2)).trans hx197_2
                        replace hx197_3 := (HB.out.cell (World.block_lt_of_cell? w _ hx197_3)).trans hx197_3
                        replace hx197_4 := (HB.out.cell (World.block_lt_of_cell? w _ hx197_4)).trans hx197_4
                        replace hx197_5 := (HB.out.cell (World.block_lt_of_cell? w _ hx197_5)).trans hx197_5
                        have HR197_1 := Aside0.mk hi197_1
                        have HC197_1 := Aside0.mk hl197_1
                        clear hi197_1 hl197_1
                        have HR197_4 := Aside0.mk hi197_4
                        have HC197_4 := Aside0.mk hl197_4
                        clear hi197_4 hl197_4
                        replace p197 := eq_true p197
                        replace q197 := eq_true q197
                        have ea_ := Option.some.inj (hx196_1.symm.trans hx197_1)
                        injection ea_ with ea_ en_ ec_
                        subst ea_
                        subst ec_
                        clear en_
                        have ea_ := Option.some.inj (hx196_4.symm.trans hx197_4)
                        injection ea_ with ea_ en_ ec_
                        subst ea_
                        subst ec_
                        clear en_
                        have p198 : 0 ≤ (a1 : Int) := of_decide_eq_true (by first | (with_reducible assumption) | assumption)
                        have q198 : a1 < (l0_0.length : Int) := of_decide_eq_true (by first | (with_reducible assumption) | assumption)
                        obtain ⟨ad198, A198_1, c198_1, A198_4, c198_4, e198, hx198_0, hx198_1, hx198_2, hx198_3, hx198_4, hx198_5, hl198_1, hi198_1, hl198_4, hi198_4⟩ := at_T37 HR0_0.out a1 p198 q198
                        obtain rfl : ad195 = ad198 := (by injection e198)
                        replace hx198_0 := (HB.out.cell (World.block_lt_of_cell? w _ hx198_0)).trans hx198_0
                        replace hx198_1 := (HB.out.cell (World.block_lt_of_cell? w _ hx198_1)).trans hx198_1
                        replace hx198_2 := (HB.out.cell (World.block_lt_of_cell? w _ hx198_2)).trans hx198_2
                        replace hx198_3 := (HB.out.cell (World.block_lt_of_cell? w _ hx198_3)).trans hx198_3
                        replace hx198_4 := (HB.out.cell (World.block_lt_of_cell? w _ hx198_4)).trans hx198_4
                        replace hx198_5 := (HB.out.cell (World.block_lt_of_cell? w _ hx198_5)).trans hx198_5
                        have HR198_1 := Aside0.mk hi198_1
                        have HC198_1 := Aside0.mk hl198_1
                        clear hi198_1 hl198_1
                        have HR198_4 := Aside0.mk hi198_4
                        have HC198_4 := Aside0.mk hl198_4
                        clear hi198_4 hl198_4
                        replace p198 := eq_true p198
                        replace q198 := eq_true q198
                        go_wp2
                        repeat (go_quiet (fail); try go_wp2)
                        go_roundg k1
                        case measure => have := HK1.out; omega
                        case rel => exact ⟨(wrap64 (x6_1 + 1)), (by first | rfl | (simp; done) | (simp [*]; done)), H', ⟨by have := HK1.out; omega⟩, ⟨by (with_reducible repeat (first | refine blk_drewN ?_ _ | refine blk_drew ?_ | refine blk_alloc ?_ _)); exact BK194.out⟩, ⟨by repeat (first | (with_reducible first | exact HB.out | apply below_alloc | apply pw_below_drewN | apply below_drew1 | refine below_set ?_ GE194.out) | exact HB.out)⟩⟩
                    · rw [if_neg c12] at H
                      exact absurd H (by simp)
                  · rw [if_neg c11] at H
                    exact absurd H (by simp)
                · rw [if_neg c10] at H
                  have c10b0 : (((rd_T37 l0_0 x6_1).f0) == ((rd_T37 l0_0 a1).f0)) = false := beq_eq_false_iff_ne.mpr c10
                  have c10b1 : (((rd_T37 l0_0 x6_1).f0) != ((rd_T37 l0_0 a1).f0)) = true := bne_iff_ne.mpr c10
                  have H' := Aside0.mk H
                  clear H
                  have hcz20_0 : wr.cell? ⟨gb194, 0, none⟩ = some (.slice (some ad195) l0_0.length c0_0) := (blk_cell BK194.out 0).trans rfl
                  have hcz20_1 : wr.cell? ⟨gb194, 1, none⟩ = some (.int .i64 a0_1) := (blk_cell BK194.out 1).trans rfl
                  have hfz20_0 := blk_frozen BK194.out 0
                  have hfz20_1 := blk_frozen BK194.out 1
                  have p196 : 0 ≤ (x6_1 : Int) := of_decide_eq_true (by first | (with_reducible assumption) | assumption)
                  have q196 : x6_1 < (l0_0.length : Int) := of_decide_eq_true (by first | (with_reducible assumption) | assumption)
                  obtain ⟨ad196, A196_1, c196_1, A196_4, c196_4, e196, hx196_0, hx196_1, hx196_2, hx196_3, hx196_4, hx196_5, hl196_1, hi196_1, hl196_4, hi196_4⟩ := at_T37 HR0_0.out x6_1 p196 q196
                  obtain rfl : ad195 = ad196 := (by injection e196)
                  replace hx196_0 := (HB.out.cell (World.block_lt_of_cell? w _ hx196_0)).trans hx196_0
                  replace hx196_1 := (HB.out.cell (World.block_lt_of_cell? w _ hx196_1)).trans hx196_1
                  replace hx196_2 := (HB.out.cell (World.block_lt_of_cell? w _ hx196_2)).trans hx196_2
                  replace hx196_3 := (HB.out.cell (World.block_lt_of_cell? w _ hx196_3)).trans hx196_3
                  replace hx196_4 := (HB.out.cell (World.block_lt_of_cell? w _ hx196_4)).trans hx196_4
                  replace hx196_5 := (HB.out.cell (World.block_lt_of_cell? w _ hx196_5)).trans hx196_5
                  have HR196_1 := Aside0.mk hi196_1
                  have HC196_1 := Aside0.mk hl196_1
                  clear hi196_1 hl196_1
                  have HR196_4 := Aside0.mk hi196_4
                  have HC196_4 := Aside0.mk hl196_4
                  clear hi196_4 hl196_4
                  replace p196 := eq_true p196
                  replace q196 := eq_true q196
                  go_wp2
                  repeat (go_quiet (fail); try go_wp2)
                  go_roundg k1
                  case measure => have := HK1.out; omega
                  case rel => exact ⟨(wrap64 (x6_1 + 1)), (by first | rfl | (simp; done) | (simp [*]; done)), H', ⟨by have := HK1.out; omega⟩, ⟨by (with_reducible repeat (first | refine blk_drewN ?_ _ | refine blk_drew ?_ | refine blk_alloc ?_ _)); exact BK194.out⟩, ⟨by repeat (first | (with_reducible first | exact HB.out | apply below_alloc | apply pw_below_drewN | apply below_drew1 | refine below_set ?_ GE194.out) | exact HB.out)⟩⟩
              · rw [if_neg c9] at H
                exact absurd H (by simp)
            · rw [if_neg c8] at H
              exact absurd H (by simp)
          · rw [if_neg c7] at H
            have c7b0 : decide (x6_1 < a1) = false := decide_eq_false c7
            clear c7
            obtain rfl := Option.some.inj H
            go_wp2
            repeat (go_quiet (fail); try go_wp2)
            go_ret
            exact ⟨by first | rfl | (simp [errW_none, errW_some] <;> rfl) | (simp [*, errW_none, errW_some] <;> rfl), by repeat (first | (with_reducible first | exact HB.out | apply below_alloc | apply pw_below_drewN | apply below_drew1 | refine below_set ?_ GE194.out) | exact HB.out)⟩
    · rw [if_neg c4] at H
      exact absurd H (by simp)
  · rw [if_neg c3] at H
    exact absurd H (by simp)

end Go.Proofs.Ytlandgbhbfdekaa.Ex
