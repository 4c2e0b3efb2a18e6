import Derived.Test.YtmnglonjekegcaaRp0
import Derived.Test.YtmnglonjekegcaaWWords
import Derived.Test.YtmnglonjekegcaaRp5
import Derived.Test.YtmnglonjekegcaaRp6
namespace Go.Proofs.Ytmnglonjekegcaa.Rp
open Go.RowKit Go.Proofs.YtmnglonjekegcaaW.PrintWords Go.Proofs.YtmnglonjekegcaaW.PrintLast Go.Proofs.YtmnglonjekegcaaW.PrintMore
attribute [local go_sem] max2_int min2_int max_two min_two max_three min_three max_four min_four   -- for this text's walks alone
set_option linter.unusedVariables false
set_option linter.unusedSimpArgs false

mutual
def tidemillref11_Same.j0 : Nat → Bool → List (S36) → List (S41) → Int → List (S36) → List (S41) → Int → Option (Bool)
  | 0, _, _, _, _, _, _, _ => none
  | k + 1, x29, x121000, x121001, x121002, x122000, x122001, x122002 => if x29 = true then (some false) else (tidemillref11_Same.l0 k 0 x121000 x121001 x121002 x122000 x122001 x122002)
def tidemillref11_Same.l0 : Nat → Int → List (S36) → List (S41) → Int → List (S36) → List (S41) → Int → Option (Bool)
  | 0, _, _, _, _, _, _, _ => none
  | k + 1, x5, x121000, x121001, x121002, x122000, x122001, x122002 => if x5 < (x121000.length : Int) then (if 0 ≤ x5 then (if x5 < (x122000.length : Int) then ((tidemillref11_LogSame.f k ((rd_T36 x121000 x5).f0) ((rd_T36 x121000 x5).f1) ((rd_T36 x121000 x5).f2) ((rd_T36 x122000 x5).f0) ((rd_T36 x122000 x5).f1) ((rd_T36 x122000 x5).f2)).bind fun t124 => (if t124 = true then (tidemillref11_Same.l0 k (wrap64 (x5 + 1)) x121000 x121001 x121002 x122000 x122001 x122002) else (some false))) else (none)) else (none)) else (tidemillref11_Same.l1 k 0 x121000 x121001 x121002 x122000 x122001 x122002)
def tidemillref11_Same.l1 : Nat → Int → List (S36) → List (S41) → Int → List (S36) → List (S41) → Int → Option (Bool)
  | 0, _, _, _, _, _, _, _ => none
  | k + 1, x6, x121000, x121001, x121002, x122000, x122001, x122002 => if x6 < (x121001.length : Int) then (if 0 ≤ x6 then (if x6 < (x122001.length : Int) then ((tidemillref11_TaskSame.f k ((rd_T41 x121001 x6).f0) ((rd_T41 x121001 x6).f1) ((rd_T41 x121001 x6).f2) ((rd_T41 x121001 x6).f3) ((rd_T41 x121001 x6).f4) ((rd_T41 x121001 x6).f5) ((rd_T41 x122001 x6).f0) ((rd_T41 x122001 x6).f1) ((rd_T41 x122001 x6).f2) ((rd_T41 x122001 x6).f3) ((rd_T41 x122001 x6).f4) ((rd_T41 x122001 x6).f5)).bind fun t127 => (if t127 = true then (tidemillref11_Same.l1 k (wrap64 (x6 + 1)) x121000 x121001 x121002 x122000 x122001 x122002) else (some false))) else (none)) else (none)) else (some true)
end
def tidemillref11_Same.f (k : Nat) (l0_0 : List (S36)) (l0_1 : List (S41)) (a0_2 : Int) (l1_0 : List (S36)) (l1_1 : List (S41)) (a1_2 : Int) : Option (Bool) := if a0_2 = a1_2 then (if (l0_0.length : Int) = (l1_0.length : Int) then (tidemillref11_Same.j0 k ((l0_1.length : Int) != (l1_1.length : Int)) l0_0 l0_1 a0_2 l1_0 l1_1 a1_2) else (tidemillref11_Same.j0 k true l0_0 l0_1 a0_2 l1_0 l1_1 a1_2)) else (tidemillref11_Same.j0 k true l0_0 l0_1 a0_2 l1_0 l1_1 a1_2)
theorem tidemillref11_Same.mono_l : ∀ k, (∀ y0 y1 y2 y3 y4 y5 y6, LeO (tidemillref11_Same.j0 k y0 y1 y2 y3 y4 y5 y6) (tidemillref11_Same.j0 (k + 1) y0 y1 y2 y3 y4 y5 y6)) ∧ (∀ y0 y1 y2 y3 y4 y5 y6, LeO (tidemillref11_Same.l0 k y0 y1 y2 y3 y4 y5 y6) (tidemillref11_Same.l0 (k + 1) y0 y1 y2 y3 y4 y5 y6)) ∧ (∀ y0 y1 y2 y3 y4 y5 y6, LeO (tidemillref11_Same.l1 k y0 y1 y2 y3 y4 y5 y6) (tidemillref11_Same.l1 (k + 1) y0 y1 y2 y3 y4 y5 y6))
  | 0 => ⟨fun _ _ _ _ _ _ _ r h => by simp [tidemillref11_Same.j0] at h, fun _ _ _ _ _ _ _ r h => by simp [tidemillref11_Same.l0] at h, fun _ _ _ _ _ _ _ r h => by simp [tidemillref11_Same.l1] at h⟩
  | k + 1 => by
    obtain ⟨ih0, ih1, ih2⟩ := tidemillref11_Same.mono_l k
    refine ⟨?_, ?_, ?_⟩
    · intro y0 y1 y2 y3 y4 y5 y6
      unfold tidemillref11_Same.j0
      repeat' first
      | (with_reducible exact ih0 _ _ _ _ _ _ _)
      | (with_reducible exact ih1 _ _ _ _ _ _ _)
      | (with_reducible exact ih2 _ _ _ _ _ _ _)
      | (with_reducible exact tidemillref11_LogSame.mono _ _ _ _ _ _ _)
      | (with_reducible exact tidemillref11_TaskSame.mono _ _ _ _ _ _ _ _ _ _ _ _ _)
      | (with_reducible exact LeO.refl _)
      | (with_reducible exact LeO.none _)
      | (with_reducible refine LeO.ite ?_ ?_)
      | (with_reducible refine LeO.bind ?_ (fun _ => ?_))
      | exact ih0 _ _ _ _ _ _ _
      | exact ih1 _ _ _ _ _ _ _
      | exact ih2 _ _ _ _ _ _ _
      | exact tidemillref11_LogSame.mono _ _ _ _ _ _ _
      | exact tidemillref11_TaskSame.mono _ _ _ _ _ _ _ _ _ _ _ _ _
      | exact LeO.none _
      | refine LeO.ite ?_ ?_
      | refine LeO.bind ?_ (fun _ => ?_)
    · intro y0 y1 y2 y3 y4 y5 y6
      unfold tidemillref11_Same.l0
      repeat' first
      | (with_reducible exact ih0 _ _ _ _ _ _ _)
      | (with_reducible exact ih1 _ _ _ _ _ _ _)
      | (with_reducible exact ih2 _ _ _ _ _ _ _)
      | (with_reducible exact tidemillref11_LogSame.mono _ _ _ _ _ _ _)
      | (with_reducible exact tidemillref11_TaskSame.mono _ _ _ _ _ _ _ _ _ _ _ _ _)
      | (with_reducible exact LeO.refl _)
      | (with_reducible exact LeO.none _)
      | (with_reducible refine LeO.ite ?_ ?_)
      | (with_reducible refine LeO.bind ?_ (fun _ => ?_))
      | exact ih0 _ _ _ _ _ _ _
      | exact ih1 _ _ _ _ _ _ _
      | exact ih2 _ _ _ _ _ _ _
      | exact tidemillref11_LogSame.mono _ _ _ _ _ _ _
      | exact tidemillref11_TaskSame.mono _ _ _ _ _ _ _ _ _ _ _ _ _
      | exact LeO.none _
      | refine LeO.ite ?_ ?_
      | refine LeO.bind ?_ (fun _ => ?_)
    · intro y0 y1 y2 y3 y4 y5 y6
      unfold tidemillref11_Same.l1
      repeat' first
      | (with_reducible exact ih0 _ _ _ _ _ _ _)
      | (with_reducible exact ih1 _ _ _ _ _ _ _)
      | (with_reducible exact ih2 _ _ _ _ _ _ _)
      | (with_reducible exact tidemillref11_LogSame.mono _ _ _ _ _ _ _)
      | (with_reducible exact tidemillref11_TaskSame.mono _ _ _ _ _ _ _ _ _ _ _ _ _)
      | (with_reducible exact LeO.refl _)
      | (with_reducible exact LeO.none _)
      | (with_reducible refine LeO.ite ?_ ?_)
      | (with_reducible refine LeO.bind ?_ (fun _ => ?_))
      | exact ih0 _ _ _ _ _ _ _
      | exact ih1 _ _ _ _ _ _ _
      | exact ih2 _ _ _ _ _ _ _
      | exact tidemillref11_LogSame.mono _ _ _ _ _ _ _
      | exact tidemillref11_TaskSame.mono _ _ _ _ _ _ _ _ _ _ _ _ _
      | exact LeO.none _
      | refine LeO.ite ?_ ?_
      | refine LeO.bind ?_ (fun _ => ?_)
theorem tidemillref11_Same.mono : ∀ a0 a1 a2 a3 a4 a5 k, LeO (tidemillref11_Same.f k a0 a1 a2 a3 a4 a5) (tidemillref11_Same.f (k + 1) a0 a1 a2 a3 a4 a5) := by
  intro a0 a1 a2 a3 a4 a5 k
  obtain ⟨ih0, ih1, ih2⟩ := tidemillref11_Same.mono_l k
  unfold tidemillref11_Same.f
  repeat' first
      | (with_reducible exact ih0 _ _ _ _ _ _ _)
      | (with_reducible exact ih1 _ _ _ _ _ _ _)
      | (with_reducible exact ih2 _ _ _ _ _ _ _)
      | (with_reducible exact tidemillref11_LogSame.mono _ _ _ _ _ _ _)
      | (with_reducible exact tidemillref11_TaskSame.mono _ _ _ _ _ _ _ _ _ _ _ _ _)
      | (with_reducible exact LeO.refl _)
      | (with_reducible exact LeO.none _)
      | (with_reducible refine LeO.ite ?_ ?_)
      | (with_reducible refine LeO.bind ?_ (fun _ => ?_))
      | exact ih0 _ _ _ _ _ _ _
      | exact ih1 _ _ _ _ _ _ _
      | exact ih2 _ _ _ _ _ _ _
      | exact tidemillref11_LogSame.mono _ _ _ _ _ _ _
      | exact tidemillref11_TaskSame.mono _ _ _ _ _ _ _ _ _ _ _ _ _
      | exact LeO.none _
      | refine LeO.ite ?_ ?_
      | refine LeO.bind ?_ (fun _ => ?_)
def tidemillref11_Same.T6 : Bool × List (List Nat × List Nat) := (true, [([], []), ([0], [0]), ([], []), ([1, 2], [1, 2]), ([3], [3]), ([], []), ([5], [5]), ([], []), ([6, 7], [6, 7]), ([8], [8]), ([4, 9], [4, 9]), ([10], [10])])
def tidemillref11_Same.B6 : List Nat := [0, 1, 0, 7, 15, 0, 32, 0, 224, 480, 1023, 2047]
theorem tidemillref11_Same.tab6 : rtab .any (opsOf Try.f11 6) = tidemillref11_Same.T6 := by kernel_rfl
theorem tidemillref11_Same.bits6 : waitsOk tidemillref11_Same.T6.2 tidemillref11_Same.B6 = true := by kernel_rfl
def tidemillref11_Same.T11 : Bool × List (List Nat × List Nat) := (true, [([], []), ([0], [0]), ([], []), ([1, 2], [1, 2]), ([3], [3]), ([], []), ([5], [5]), ([], []), ([6, 7], [6, 7]), ([8], [8]), ([4, 9], [4, 9]), ([10], [10])])
def tidemillref11_Same.B11 : List Nat := [0, 1, 0, 7, 15, 0, 32, 0, 224, 480, 1023, 2047]
theorem tidemillref11_Same.tab11 : rtab .any (opsOf Try.f11 11) = tidemillref11_Same.T11 := by kernel_rfl
theorem tidemillref11_Same.bits11 : waitsOk tidemillref11_Same.T11.2 tidemillref11_Same.B11 = true := by kernel_rfl
set_option maxHeartbeats 8000000 in
set_option maxRecDepth 100000 in
theorem tidemillref11_Same.calls (k : Nat) (A0_0 : Option Addr) (c0_0 : Nat) (l0_0 : List (S36)) (A0_1 : Option Addr) (c0_1 : Nat) (l0_1 : List (S41)) (a0_2 : Int) (A1_0 : Option Addr) (c1_0 : Nat) (l1_0 : List (S36)) (A1_1 : Option Addr) (c1_1 : Nat) (l1_1 : List (S41)) (a1_2 : Int) (r : Bool) (w : World) (hr0_0 : Kd.C k36 w A0_0 l0_0.length l0_0) (hc0_0 : l0_0.length ≤ c0_0) (hr0_1 : Kd.C k41 w A0_1 l0_1.length l0_1) (hc0_1 : l0_1.length ≤ c0_1) (hr1_0 : Kd.C k36 w A1_0 l1_0.length l1_0) (hc1_0 : l1_0.length ≤ c1_0) (hr1_1 : Kd.C k41 w A1_1 l1_1.length l1_1) (hc1_1 : l1_1.length ≤ c1_1) (h : tidemillref11_Same.f k l0_0 l0_1 a0_2 l1_0 l1_1 a1_2 = some r) :
    Calls Try.prog 11 #[.agg #[.slice A0_0 l0_0.length c0_0, .slice A0_1 l0_1.length c0_1, .int .i64 a0_2], .agg #[.slice A1_0 l1_0.length c1_0, .slice A1_1 l1_1.length c1_1, .int .i64 a1_2]] w fun e w' => e = .returned (.bool r) ∧ Below w.heap.size w w' := by
  have hu29 := Try.underlying29
  have hu36 := Try.underlying36
  have hu41 := Try.underlying41
  have HR0_0 := Aside0.mk hr0_0
  have HC0_0 := Aside0.mk hc0_0
  clear hr0_0 hc0_0
  have HR0_1 := Aside0.mk hr0_1
  have HC0_1 := Aside0.mk hc0_1
  clear hr0_1 hc0_1
  have HR1_0 := Aside0.mk hr1_0
  have HC1_0 := Aside0.mk hc1_0
  clear hr1_0 hc1_0
  have HR1_1 := Aside0.mk hr1_1
  have HC1_1 := Aside0.mk hc1_1
  clear hr1_1 hc1_1
  have HB := Aside0.mk (Below.refl w.heap.size w)
  have H : (if a0_2 = a1_2 then (if (l0_0.length : Int) = (l1_0.length : Int) then (tidemillref11_Same.j0 k ((l0_1.length : Int) != (l1_1.length : Int)) l0_0 l0_1 a0_2 l1_0 l1_1 a1_2) else (tidemillref11_Same.j0 k true l0_0 l0_1 a0_2 l1_0 l1_1 a1_2)) else (tidemillref11_Same.j0 k true l0_0 l0_1 a0_2 l1_0 l1_1 a1_2)) = some r := h
  clear h
  have HC3 := Aside0.mk H
  clear H
  go_enter Try.func11, Try.ntmps11
  go_upto_region 1 with (first | ((with_reducible refine gate_dst (N := 2) rfl ?_); (try (refine gate_guard (by rfl) ?_; dsimp only)); refine box_event ?hg (N := 2) ?hd (cs := #[.slice A0_0 l0_0.length c0_0, .slice A0_1 l0_1.length c0_1, .int .i64 a0_2]) (t := 29) ?hr ?_; (case hd => rfl); (case hg => rfl); (case hr => first | (go_simp; done) | (go_simp; rfl)); intro gb120 hg w4 hbox hb; have n0_ := Aside0.mk (below_step (by repeat (first | (with_reducible first | exact HB.out | apply below_alloc | apply pw_below_drewN | apply below_drew1) | exact HB.out)) hb); have n1_ := Aside0.mk (hbox); have n2_ := Aside0.mk ((by rw [hg]; exact (below_size (by repeat (first | (with_reducible first | exact HB.out | apply below_alloc | apply pw_below_drewN | apply below_drew1) | exact HB.out))) : w.heap.size ≤ gb120)); have n3_ := Aside0.mk ((by rw [hg]; exact (below_size (by repeat (first | (with_reducible first | exact HB.out | apply below_alloc | apply pw_below_drewN | apply below_drew1) | exact HB.out))) : w.heap.size ≤ gb120)); clear HB; have HB := n0_; have BK120 := n1_; have GW120 := n2_; have GE120 := n3_; clear n0_ n1_ n2_ n3_; clear hb hbox hg) | ((with_reducible refine gate_dst (N := 3) rfl ?_); (try (refine gate_guard (by rfl) ?_; dsimp only)); refine box_event ?hg (N := 3) ?hd (cs := #[.slice A1_0 l1_0.length c1_0, .slice A1_1 l1_1.length c1_1, .int .i64 a1_2]) (t := 29) ?hr ?_; (case hd => rfl); (case hg => rfl); (case hr => first | (go_simp; done) | (go_simp; rfl)); intro gb121 hg w5 hbox hb; have n0_ := Aside0.mk (blk_below (g := gb120) (o := .cells #[.slice A0_0 l0_0.length c0_0, .slice A0_1 l0_1.length c0_1, .int .i64 a0_2] 29 (0, 0)) (by (with_reducible repeat (first | refine blk_drewN ?_ _ | refine blk_drew ?_ | refine blk_alloc ?_ _)); exact BK120.out) hb); have n1_ := Aside0.mk (below_step (by repeat (first | (with_reducible first | exact HB.out | apply below_alloc | apply pw_below_drewN | apply below_drew1 | refine below_set ?_ GE120.out) | exact HB.out)) hb); have n2_ := Aside0.mk (hbox); have n3_ := Aside0.mk ((by rw [hg]; exact (below_size (by repeat (first | (with_reducible first | exact HB.out | apply below_alloc | apply pw_below_drewN | apply below_drew1 | refine below_set ?_ GE120.out) | exact HB.out))) : w.heap.size ≤ gb121)); have n4_ := Aside0.mk ((by rw [hg]; exact (below_size (by repeat (first | (with_reducible first | exact HB.out | apply below_alloc | apply pw_below_drewN | apply below_drew1 | refine below_set ?_ GE120.out) | exact HB.out))) : w.heap.size ≤ gb121)); have n5_ := Aside0.mk ((by rw [hg]; exact Nat.ne_of_lt (blk_lt (g := gb120) (o := .cells #[.slice A0_0 l0_0.length c0_0, .slice A0_1 l0_1.length c0_1, .int .i64 a0_2] 29 (0, 0)) (by (with_reducible repeat (first | refine blk_drewN ?_ _ | refine blk_drew ?_ | refine blk_alloc ?_ _)); exact BK120.out)) : gb120 ≠ gb121)); have n6_ := Aside0.mk ((by rw [hg]; exact Nat.ne_of_gt (blk_lt (g := gb120) (o := .cells #[.slice A0_0 l0_0.length c0_0, .slice A0_1 l0_1.length c0_1, .int .i64 a0_2] 29 (0, 0)) (by (with_reducible repeat (first | refine blk_drewN ?_ _ | refine blk_drew ?_ | refine blk_alloc ?_ _)); exact BK120.out)) : gb121 ≠ gb120)); clear BK120; clear HB; have BK120 := n0_; have HB := n1_; have BK121 := n2_; have GW121 := n3_; have GE121 := n4_; have NB120_121 := n5_; have NB121_120 := n6_; clear n0_ n1_ n2_ n3_ n4_ n5_ n6_; clear hb hbox hg))
  (try simp only [Act.put, List.setIfInBounds_toArray, List.set_cons_zero, List.set_cons_succ])
  go_cut [29] (fun v29 wc => ∃ (kq : Nat) (x29_2 : Bool), v29 = .bool x29_2 ∧ Aside0 (tidemillref11_Same.j0 kq x29_2 l0_0 l0_1 a0_2 l1_0 l1_1 a1_2 = some r) ∧ Aside0 (kq ≤ k) ∧ Aside0 (wc.heap[gb120]? = some (.cells #[(.slice A0_0 l0_0.length c0_0), (.slice A0_1 l0_1.length c0_1), .int .i64 a0_2] 29 (0, 0))) ∧ Aside0 (wc.heap[gb121]? = some (.cells #[(.slice A1_0 l1_0.length c1_0), (.slice A1_1 l1_1.length c1_1), .int .i64 a1_2] 29 (0, 0))) ∧ Aside0 (Below w.heap.size w wc))
  case first =>
    have H := HC3.out
    clear HC3
    by_cases c6 : a0_2 = a1_2
    · rw [if_pos c6] at H
      have c6b0 : (a0_2 == a1_2) = true := beq_iff_eq.mpr c6
      have c6b1 : (a0_2 != a1_2) = false := bne_eq_false_iff_eq.mpr c6
      clear c6
      (first | rw [c6b0] | (simp only [i64_w, i32_w]; rw [c6b0]) | skip)
      by_cases c7 : (l0_0.length : Int) = (l1_0.length : Int)
      · rw [if_pos c7] at H
        have c7b0 : ((l0_0.length : Int) == (l1_0.length : Int)) = true := beq_iff_eq.mpr c7
        have c7b1 : ((l0_0.length : Int) != (l1_0.length : Int)) = false := bne_eq_false_iff_eq.mpr c7
        have c7b2 : (l0_0.length == l1_0.length) = true := by first | simpa using c7 | (simp at c7 ⊢; omega)
        clear c7
        have H' := Aside0.mk H
        clear H
        have hnb8 := NB120_121.out
        have hnc8 := NB121_120.out
        have hcz9_0 : w5.cell? ⟨gb120, 0, none⟩ = some (.slice A0_0 l0_0.length c0_0) := (blk_cell BK120.out 0).trans rfl
        have hcz9_1 : w5.cell? ⟨gb120, 1, none⟩ = some (.slice A0_1 l0_1.length c0_1) := (blk_cell BK120.out 1).trans rfl
        have hcz9_2 : w5.cell? ⟨gb120, 2, none⟩ = some (.int .i64 a0_2) := (blk_cell BK120.out 2).trans rfl
        have hfz9_0 := blk_frozen BK120.out 0
        have hfz9_1 := blk_frozen BK120.out 1
        have hfz9_2 := blk_frozen BK120.out 2
        have hcz10_0 : w5.cell? ⟨gb121, 0, none⟩ = some (.slice A1_0 l1_0.length c1_0) := (blk_cell BK121.out 0).trans rfl
        have hcz10_1 : w5.cell? ⟨gb121, 1, none⟩ = some (.slice A1_1 l1_1.length c1_1) := (blk_cell BK121.out 1).trans rfl
        have hcz10_2 : w5.cell? ⟨gb121, 2, none⟩ = some (.int .i64 a1_2) := (blk_cell BK121.out 2).trans rfl
        have hfz10_0 := blk_frozen BK121.out 0
        have hfz10_1 := blk_frozen BK121.out 1
        have hfz10_2 := blk_frozen BK121.out 2
        go_wp2
        go_meet
        case rel => exact ⟨_, (((l0_1.length : Int) != (l1_1.length : Int))), (by first | rfl | (simp; done) | (simp [*]; done)), H', ⟨by first | omega | exact Nat.le_refl _⟩, ⟨by (with_reducible repeat (first | refine blk_drewN ?_ _ | refine blk_drew ?_ | refine blk_alloc ?_ _)); exact BK120.out⟩, ⟨by (with_reducible repeat (first | refine blk_drewN ?_ _ | refine blk_drew ?_ | refine blk_alloc ?_ _)); exact BK121.out⟩, ⟨by repeat (first | (with_reducible first | exact HB.out | apply below_alloc | apply pw_below_drewN | apply below_drew1 | refine below_set ?_ GE120.out | refine below_set ?_ GE121.out) | exact HB.out)⟩⟩
      · rw [if_neg c7] at H
        have c7b0 : ((l0_0.length : Int) == (l1_0.length : Int)) = false := beq_eq_false_iff_ne.mpr c7
        have c7b1 : ((l0_0.length : Int) != (l1_0.length : Int)) = true := bne_iff_ne.mpr c7
        have c7b2 : (l0_0.length == l1_0.length) = false := by first | simpa using c7 | (simp at c7 ⊢; omega)
        have H' := Aside0.mk H
        clear H
        have hnb11 := NB120_121.out
        have hnc11 := NB121_120.out
        have hcz12_0 : w5.cell? ⟨gb120, 0, none⟩ = some (.slice A0_0 l0_0.length c0_0) := (blk_cell BK120.out 0).trans rfl
        have hcz12_1 : w5.cell? ⟨gb120, 1, none⟩ = some (.slice A0_1 l0_1.length c0_1) := (blk_cell BK120.out 1).trans rfl
        have hcz12_2 : w5.cell? ⟨gb120, 2, none⟩ = some (.int .i64 a0_2) := (blk_cell BK120.out 2).trans rfl
        have hfz12_0 := blk_frozen BK120.out 0
        have hfz12_1 := blk_frozen BK120.out 1
        have hfz12_2 := blk_frozen BK120.out 2
        have hcz13_0 : w5.cell? ⟨gb121, 0, none⟩ = some (.slice A1_0 l1_0.length c1_0) := (blk_cell BK121.out 0).trans rfl
        have hcz13_1 : w5.cell? ⟨gb121, 1, none⟩ = some (.slice A1_1 l1_1.length c1_1) := (blk_cell BK121.out 1).trans rfl
        have hcz13_2 : w5.cell? ⟨gb121, 2, none⟩ = some (.int .i64 a1_2) := (blk_cell BK121.out 2).trans rfl
        have hfz13_0 := blk_frozen BK121.out 0
        have hfz13_1 := blk_frozen BK121.out 1
        have hfz13_2 := blk_frozen BK121.out 2
        go_wp2
        go_meet
        case rel => exact ⟨_, (true), (by first | rfl | (simp; done) | (simp [*]; done)), H', ⟨by first | omega | exact Nat.le_refl _⟩, ⟨by (with_reducible repeat (first | refine blk_drewN ?_ _ | refine blk_drew ?_ | refine blk_alloc ?_ _)); exact BK120.out⟩, ⟨by (with_reducible repeat (first | refine blk_drewN ?_ _ | refine blk_drew ?_ | refine blk_alloc ?_ _)); exact BK121.out⟩, ⟨by repeat (first | (with_reducible first | exact HB.out | apply below_alloc | apply pw_below_drewN | apply below_drew1 | refine below_set ?_ GE120.out | refine below_set ?_ GE121.out) | exact HB.out)⟩⟩
    · rw [if_neg c6] at H
      have c6b0 : (a0_2 == a1_2) = false := beq_eq_false_iff_ne.mpr c6
      have c6b1 : (a0_2 != a1_2) = true := bne_iff_ne.mpr c6
      (first | rw [c6b0] | (simp only [i64_w, i32_w]; rw [c6b0]) | skip)
      have H' := Aside0.mk H
      clear H
      have hnb14 := NB120_121.out
      have hnc14 := NB121_120.out
      have hcz15_0 : w5.cell? ⟨gb120, 0, none⟩ = some (.slice A0_0 l0_0.length c0_0) := (blk_cell BK120.out 0).trans rfl
      have hcz15_1 : w5.cell? ⟨gb120, 1, none⟩ = some (.slice A0_1 l0_1.length c0_1) := (blk_cell BK120.out 1).trans rfl
      have hcz15_2 : w5.cell? ⟨gb120, 2, none⟩ = some (.int .i64 a0_2) := (blk_cell BK120.out 2).trans rfl
      have hfz15_0 := blk_frozen BK120.out 0
      have hfz15_1 := blk_frozen BK120.out 1
      have hfz15_2 := blk_frozen BK120.out 2
      have hcz16_0 : w5.cell? ⟨gb121, 0, none⟩ = some (.slice A1_0 l1_0.length c1_0) := (blk_cell BK121.out 0).trans rfl
      have hcz16_1 : w5.cell? ⟨gb121, 1, none⟩ = some (.slice A1_1 l1_1.length c1_1) := (blk_cell BK121.out 1).trans rfl
      have hcz16_2 : w5.cell? ⟨gb121, 2, none⟩ = some (.int .i64 a1_2) := (blk_cell BK121.out 2).trans rfl
      have hfz16_0 := blk_frozen BK121.out 0
      have hfz16_1 := blk_frozen BK121.out 1
      have hfz16_2 := blk_frozen BK121.out 2
      go_wp2
      go_meet
      case rel => exact ⟨_, (true), (by first | rfl | (simp; done) | (simp [*]; done)), H', ⟨by first | omega | exact Nat.le_refl _⟩, ⟨by (with_reducible repeat (first | refine blk_drewN ?_ _ | refine blk_drew ?_ | refine blk_alloc ?_ _)); exact BK120.out⟩, ⟨by (with_reducible repeat (first | refine blk_drewN ?_ _ | refine blk_drew ?_ | refine blk_alloc ?_ _)); exact BK121.out⟩, ⟨by repeat (first | (with_reducible first | exact HB.out | apply below_alloc | apply pw_below_drewN | apply below_drew1 | refine below_set ?_ GE120.out | refine below_set ?_ GE121.out) | exact HB.out)⟩⟩
  case rest =>
    clear HC3
    try clear c1
    try clear p2
    try clear c6
    try clear c6b0
    try clear c6b1
    try clear c7
    try clear c7b0
    try clear c7b1
    try clear c7b2
    try clear c8
    try clear c11
    try clear c14
    try clear hcz10_0
    try clear hcz10_1
    try clear hcz10_2
    try clear hcz12_0
    try clear hcz12_1
    try clear hcz12_2
    try clear hcz13_0
    try clear hcz13_1
    try clear hcz13_2
    try clear hcz15_0
    try clear hcz15_1
    try clear hcz15_2
    try clear hcz16_0
    try clear hcz16_1
    try clear hcz16_2
    try clear hcz9_0
    try clear hcz9_1
    try clear hcz9_2
    try clear hfz10_0
    try clear hfz10_1
    try clear hfz10_2
    try clear hfz12_0
    try clear hfz12_1
    try clear hfz12_2
    try clear hfz13_0
    try clear hfz13_1
    try clear hfz13_2
    try clear hfz15_0
    try clear hfz15_1
    try clear hfz15_2
    try clear hfz16_0
    try clear hfz16_1
    try clear hfz16_2
    try clear hfz9_0
    try clear hfz9_1
    try clear hfz9_2
    obtain ⟨kq, x29_2, rfl, HA, HJ2, BK120, BK121, HB⟩ := hcut
    cases kq with
    | zero => exact absurd HA.out (by simp [tidemillref11_Same.j0])
    | succ kj2 =>
      have H := HA.out
      clear HA
      simp only [tidemillref11_Same.j0] at H
      by_cases c17 : x29_2 = true
      · subst c17
        have H1 : (some false) = some r := by rw [if_pos rfl] at H; exact H
        clear H
        have H := H1
        clear H1
        obtain rfl := Option.some.inj H
        go_wp2
        go_ret
        exact ⟨by first | rfl | (simp [errW_none, errW_some] <;> rfl) | (simp [*, errW_none, errW_some] <;> rfl), by repeat (first | (with_reducible first | exact HB.out | apply below_alloc | apply pw_below_drewN | apply below_drew1 | refine below_set ?_ GE120.out | refine below_set ?_ GE121.out) | exact HB.out)⟩
      · replace c17 := Bool.eq_false_iff.mpr c17
        subst c17
        have H1 : (tidemillref11_Same.l0 kj2 0 l0_0 l0_1 a0_2 l1_0 l1_1 a1_2) = some r := by rw [if_neg (show ¬ (false = true) by decide)] at H; exact H
        clear H
        have H := H1
        clear H1
        have H' := Aside0.mk H
        clear H
        go_wp2
        go_loopg [5] kj2 (fun kq v5 w' => ∃ (x5_2 : Int), v5 = .int .i64 x5_2 ∧ Aside0 (tidemillref11_Same.l0 kq x5_2 l0_0 l0_1 a0_2 l1_0 l1_1 a1_2 = some r) ∧ Aside0 (kq ≤ kj2) ∧ Aside0 (w'.heap[gb120]? = some (.cells #[(.slice A0_0 l0_0.length c0_0), (.slice A0_1 l0_1.length c0_1), .int .i64 a0_2] 29 (0, 0))) ∧ Aside0 (w'.heap[gb121]? = some (.cells #[(.slice A1_0 l1_0.length c1_0), (.slice A1_1 l1_1.length c1_1), .int .i64 a1_2] 29 (0, 0))) ∧ Aside0 (Below w.heap.size w w'))
        case atStart => exact ⟨(0), (by first | rfl | (simp; done) | (simp [*]; done)), H', ⟨Nat.le_refl _⟩, ⟨by (with_reducible repeat (first | refine blk_drewN ?_ _ | refine blk_drew ?_ | refine blk_alloc ?_ _)); exact BK120.out⟩, ⟨by (with_reducible repeat (first | refine blk_drewN ?_ _ | refine blk_drew ?_ | refine blk_alloc ?_ _)); exact BK121.out⟩, ⟨by repeat (first | (with_reducible first | exact HB.out | apply below_alloc | apply pw_below_drewN | apply below_drew1 | refine below_set ?_ GE120.out | refine below_set ?_ GE121.out) | exact HB.out)⟩⟩
        case round =>
          clear H'
          try clear c1
          try clear p2
          try clear c6
          try clear c6b0
          try clear c6b1
          try clear c7
          try clear c7b0
          try clear c7b1
          try clear c7b2
          try clear c8
          try clear c11
          try clear c14
          try clear c17
          try clear hcz10_0
          try clear hcz10_1
          try clear hcz10_2
          try clear hcz12_0
          try clear hcz12_1
          try clear hcz12_2
          try clear hcz13_0
          try clear hcz13_1
          try clear hcz13_2
          try clear hcz15_0
          try clear hcz15_1
          try clear hcz15_2
          try clear hcz16_0
          try clear hcz16_1
          try clear hcz16_2
          try clear hcz9_0
          try clear hcz9_1
          try clear hcz9_2
          try clear hfz10_0
          try clear hfz10_1
          try clear hfz10_2
          try clear hfz12_0
          try clear hfz12_1
          try clear hfz12_2
          try clear hfz13_0
          try clear hfz13_1
          try clear hfz13_2
          try clear hfz15_0
          try clear hfz15_1
          try clear hfz15_2
          try clear hfz16_0
          try clear hfz16_1
          try clear hfz16_2
          try clear hfz9_0
          try clear hfz9_1
          try clear hfz9_2
          try clear p2
          obtain ⟨x5_2, rfl, HA, HK2, BK120, BK121, HB⟩ := hrel
          cases gk with
          | zero => exact absurd HA.out (by simp [tidemillref11_Same.l0])
          | succ k2 =>
            have H := HA.out
            clear HA
            simp only [tidemillref11_Same.l0] at H
            by_cases c18 : x5_2 < (l0_0.length : Int)
            · rw [if_pos c18] at H
              have c18b0 : decide (x5_2 < (l0_0.length : Int)) = true := decide_eq_true c18
              clear c18
              by_cases c19 : 0 ≤ x5_2
              · rw [if_pos c19] at H
                have c19b0 : decide (0 ≤ x5_2) = true := decide_eq_true c19
                clear c19
                by_cases c20 : x5_2 < (l1_0.length : Int)
                · rw [if_pos c20] at H
                  have c20b0 : decide (x5_2 < (l1_0.length : Int)) = true := decide_eq_true c20
                  clear c20
                  replace H := Option.bind_eq_some_iff.mp H
                  obtain ⟨t124, A210, H⟩ := H
                  replace H : (if t124 = true then (tidemillref11_Same.l0 k2 (wrap64 (x5_2 + 1)) l0_0 l0_1 a0_2 l1_0 l1_1 a1_2) else (some false)) = some r := H
                  have A21 := Aside0.mk A210
                  clear A210
                  by_cases c22 : t124 = true
                  · subst c22
                    have H1 : (tidemillref11_Same.l0 k2 (wrap64 (x5_2 + 1)) l0_0 l0_1 a0_2 l1_0 l1_1 a1_2) = some r := by rw [if_pos rfl] at H; exact H
                    clear H
                    have H := H1
                    clear H1
                    have H' := Aside0.mk H
                    clear H
                    have hnb23 := NB120_121.out
                    have hnc23 := NB121_120.out
                    have hcz24_0 : wr.cell? ⟨gb120, 0, none⟩ = some (.slice A0_0 l0_0.length c0_0) := (blk_cell BK120.out 0).trans rfl
                    have hcz24_1 : wr.cell? ⟨gb120, 1, none⟩ = some (.slice A0_1 l0_1.length c0_1) := (blk_cell BK120.out 1).trans rfl
                    have hcz24_2 : wr.cell? ⟨gb120, 2, none⟩ = some (.int .i64 a0_2) := (blk_cell BK120.out 2).trans rfl
                    have hfz24_0 := blk_frozen BK120.out 0
                    have hfz24_1 := blk_frozen BK120.out 1
                    have hfz24_2 := blk_frozen BK120.out 2
                    try go_wp2
                    have n0_ := Aside0.mk (blk_drew BK120.out)
                    have n1_ := Aside0.mk (blk_drew BK121.out)
                    have n2_ := Aside0.mk (below_drew1 HB.out)
                    clear BK120
                    clear BK121
                    clear HB
                    have BK120 := n0_
                    have BK121 := n1_
                    have HB := n2_
                    clear n0_ n1_ n2_
                    have p122 : 0 ≤ (x5_2 : Int) := of_decide_eq_true (by first | (with_reducible assumption) | assumption)
                    have q122 : x5_2 < (l0_0.length : Int) := of_decide_eq_true (by first | (with_reducible assumption) | assumption)
                    obtain ⟨ad122, A122_1, c122_1, A122_2, c122_2, e122, hx122_0, hx122_1, hx122_2, hl122_1, hi122_1, hl122_2, hi122_2⟩ := at_T36 HR0_0.out x5_2 p122 q122
                    have hw122_2 := hx122_2
                    have hw122_1 := hx122_1
                    have hw122_0 := hx122_0
                    cases e122
                    replace hx122_0 := (HB.out.cell (World.block_lt_of_cell? w _ hx122_0)).trans hx122_0
                    replace hx122_1 := (HB.out.cell (World.block_lt_of_cell? w _ hx122_1)).trans hx122_1
                    replace hx122_2 := (HB.out.cell (World.block_lt_of_cell? w _ hx122_2)).trans hx122_2
                    have HR122_1 := Aside0.mk hi122_1
                    have HC122_1 := Aside0.mk hl122_1
                    clear hi122_1 hl122_1
                    have HR122_2 := Aside0.mk hi122_2
                    have HC122_2 := Aside0.mk hl122_2
                    clear hi122_2 hl122_2
                    replace p122 := eq_true p122
                    replace q122 := eq_true q122
                    have p123 : 0 ≤ (x5_2 : Int) := of_decide_eq_true (by first | (with_reducible assumption) | assumption)
                    have q123 : x5_2 < (l1_0.length : Int) := of_decide_eq_true (by first | (with_reducible assumption) | assumption)
                    obtain ⟨ad123, A123_1, c123_1, A123_2, c123_2, e123, hx123_0, hx123_1, hx123_2, hl123_1, hi123_1, hl123_2, hi123_2⟩ := at_T36 HR1_0.out x5_2 p123 q123
                    have hw123_2 := hx123_2
                    have hw123_1 := hx123_1
                    have hw123_0 := hx123_0
                    cases e123
                    replace hx123_0 := (HB.out.cell (World.block_lt_of_cell? w _ hx123_0)).trans hx123_0
                    replace hx123_1 := (HB.out.cell (World.block_lt_of_cell? w _ hx123_1)).trans hx123_1
                    replace hx123_2 := (HB.out.cell (World.block_lt_of_cell? w _ hx123_2)).trans hx123_2
                    have HR123_1 := Aside0.mk hi123_1
                    have HC123_1 := Aside0.mk hl123_1
                    clear hi123_1 hl123_1
                    have HR123_2 := Aside0.mk hi123_2
                    have HC123_2 := Aside0.mk hl123_2
                    clear hi123_2 hl123_2
                    replace p123 := eq_true p123
                    replace q123 := eq_true q123
                    refine start_ (n := 12) (S := fun w' => w'.cell? ⟨gb120, 0, none⟩ = some (.slice (some ad122) l0_0.length c0_0) ∧ w'.cell? ⟨gb120, 1, none⟩ = some (.slice A0_1 l0_1.length c0_1) ∧ w'.cell? ⟨gb120, 2, none⟩ = some (.int .i64 a0_2) ∧ w'.cell? ⟨gb121, 0, none⟩ = some (.slice (some ad123) l1_0.length c1_0) ∧ w'.cell? ⟨gb121, 1, none⟩ = some (.slice A1_1 l1_1.length c1_1) ∧ w'.cell? ⟨gb121, 2, none⟩ = some (.int .i64 a1_2) ∧ w'.cell? (ad122.add ((x5_2).toNat * 3)) = some (.int .i64 ((rd_T36 l0_0 x5_2).f0)) ∧ w'.cell? ⟨(ad122.add ((x5_2).toNat * 3)).block, (ad122.add ((x5_2).toNat * 3)).off + 1, none⟩ = some (.slice A122_1 ((rd_T36 l0_0 x5_2).f1).length c122_1) ∧ w'.cell? ⟨(ad122.add ((x5_2).toNat * 3)).block, (ad122.add ((x5_2).toNat * 3)).off + 2, none⟩ = some (.slice A122_2 ((rd_T36 l0_0 x5_2).f2).length c122_2) ∧ w'.cell? (ad123.add ((x5_2).toNat * 3)) = some (.int .i64 ((rd_T36 l1_0 x5_2).f0)) ∧ w'.cell? ⟨(ad123.add ((x5_2).toNat * 3)).block, (ad123.add ((x5_2).toNat * 3)).off + 1, none⟩ = some (.slice A123_1 ((rd_T36 l1_0 x5_2).f1).length c123_1) ∧ w'.cell? ⟨(ad123.add ((x5_2).toNat * 3)).block, (ad123.add ((x5_2).toNat * 3)).off + 2, none⟩ = some (.slice A123_2 ((rd_T36 l1_0 x5_2).f2).length c123_2)) (ds := []) #[false, false, false, false, false, false, false, false, false, false, false, false] (by kernel_rfl) rfl rfl ⟨(blk_cell BK120.out 0).trans rfl, (blk_cell BK120.out 1).trans rfl, (blk_cell BK120.out 2).trans rfl, (blk_cell BK121.out 0).trans rfl, (blk_cell BK121.out 1).trans rfl, (blk_cell BK121.out 2).trans rfl, ((HB.out.cell (World.block_lt_of_cell? w _ hw122_0)).trans hw122_0), ((HB.out.cell (World.block_lt_of_cell? w _ hw122_1)).trans hw122_1), ((HB.out.cell (World.block_lt_of_cell? w _ hw122_2)).trans hw122_2), ((HB.out.cell (World.block_lt_of_cell? w _ hw123_0)).trans hw123_0), ((HB.out.cell (World.block_lt_of_cell? w _ hw123_1)).trans hw123_1), ((HB.out.cell (World.block_lt_of_cell? w _ hw123_2)).trans hw123_2)⟩ (fun hHeld => ?_); refine with_tabW tidemillref11_Same.tab6 tidemillref11_Same.bits6 (fun HT_ HW_ => ?_)
                    generalize wr.drew = w25 at BK120 BK121 HB HR122_1 HR122_2 HR123_1 HR123_2 hx122_0 hx122_1 hx122_2 hx123_0 hx123_1 hx123_2 hHeld ⊢
                    refine pure_ (i := 0) (N := some 37) (v := ?_) (a' := ?_) #[true, false, false, false, false, false, false, false, false, false, false, false] rfl rfl (any_of HT_.out (by kernel_rfl)) (fun _ _ _ h => h) (Or.inl ⟨by rfl, ?_⟩) ?_ ?_
                    rotate_left
                    · intro w'
                      go_simp
                      with_reducible rfl
                    rotate_left
                    · simp only [Act.put, List.setIfInBounds_toArray, List.set_cons_zero, List.set_cons_succ, i64_w, i32_w]
                      rfl
                    refine pure_ (i := 2) (N := some 39) (v := ?_) (a' := ?_) #[true, false, true, false, false, false, false, false, false, false, false, false] rfl rfl (any_of HT_.out (by kernel_rfl)) (fun _ _ _ h => h) (Or.inl ⟨by rfl, ?_⟩) ?_ ?_
                    rotate_left
                    · intro w'
                      go_simp
                      with_reducible rfl
                    rotate_left
                    · simp only [Act.put, List.setIfInBounds_toArray, List.set_cons_zero, List.set_cons_succ, i64_w, i32_w]
                      rfl
                    refine pure_ (i := 5) (N := some 42) (v := ?_) (a' := ?_) #[true, false, true, false, false, true, false, false, false, false, false, false] rfl rfl (any_of HT_.out (by kernel_rfl)) (fun _ _ _ h => h) (Or.inl ⟨by rfl, ?_⟩) ?_ ?_
                    rotate_left
                    · intro w'
                      go_simp
                      with_reducible rfl
                    rotate_left
                    · simp only [Act.put, List.setIfInBounds_toArray, List.set_cons_zero, List.set_cons_succ, i64_w, i32_w]
                      rfl
                    refine pure_ (i := 7) (N := some 44) (v := ?_) (a' := ?_) #[true, false, true, false, false, true, false, true, false, false, false, false] rfl rfl (any_of HT_.out (by kernel_rfl)) (fun _ _ _ h => h) (Or.inl ⟨by rfl, ?_⟩) ?_ ?_
                    rotate_left
                    · intro w'
                      go_simp
                      with_reducible rfl
                    rotate_left
                    · simp only [Act.put, List.setIfInBounds_toArray, List.set_cons_zero, List.set_cons_succ, i64_w, i32_w]
                      rfl
                    refine take_ (i := 1) (N := some 38) (v := ?_) (a' := ?_) #[true, true, true, false, false, true, false, true, false, false, false, false] rfl rfl (take_ofW HT_.out HW_.out (by kernel_rfl)) (fun _ _ _ h => h) (Or.inl ⟨by rfl, ?_⟩) hHeld ?_ ?_
                    rotate_left
                    · rintro w' ⟨s0, s1, s2, s3, s4, s5, s6, s7, s8, s9, s10, s11⟩
                      go_simp
                      with_reducible rfl
                    rotate_left
                    · simp only [Act.put, List.setIfInBounds_toArray, List.set_cons_zero, List.set_cons_succ, i64_w, i32_w]
                      rfl
                    refine pure_ (i := 3) (N := some 40) (v := ?_) (a' := ?_) #[true, true, true, true, false, true, false, true, false, false, false, false] rfl rfl (any_of HT_.out (by kernel_rfl)) (fun _ _ _ h => h) (Or.inl ⟨by rfl, ?_⟩) ?_ ?_
                    rotate_left
                    · intro w'
                      go_simp
                      with_reducible rfl
                    rotate_left
                    · simp only [Act.put, List.setIfInBounds_toArray, List.set_cons_zero, List.set_cons_succ, i64_w, i32_w]
                      rfl
                    refine take_ (i := 4) (N := some 41) (v := ?_) (a' := ?_) #[true, true, true, true, true, true, false, true, false, false, false, false] rfl rfl (take_ofW HT_.out HW_.out (by kernel_rfl)) (fun _ _ _ h => h) (Or.inl ⟨by rfl, ?_⟩) hHeld ?_ ?_
                    rotate_left
                    · rintro w' ⟨s0, s1, s2, s3, s4, s5, s6, s7, s8, s9, s10, s11⟩
                      go_simp
                      with_reducible rfl
                    rotate_left
                    · simp only [Act.put, List.setIfInBounds_toArray, List.set_cons_zero, List.set_cons_succ, i64_w, i32_w]
                      rfl
                    refine take_ (i := 6) (N := some 43) (v := ?_) (a' := ?_) #[true, true, true, true, true, true, true, true, false, false, false, false] rfl rfl (take_ofW HT_.out HW_.out (by kernel_rfl)) (fun _ _ _ h => h) (Or.inl ⟨by rfl, ?_⟩) hHeld ?_ ?_
                    rotate_left
                    · rintro w' ⟨s0, s1, s2, s3, s4, s5, s6, s7, s8, s9, s10, s11⟩
                      go_simp
                      with_reducible rfl
                    rotate_left
                    · simp only [Act.put, List.setIfInBounds_toArray, List.set_cons_zero, List.set_cons_succ, i64_w, i32_w]
                      rfl
                    refine pure_ (i := 8) (N := some 45) (v := ?_) (a' := ?_) #[true, true, true, true, true, true, true, true, true, false, false, false] rfl rfl (any_of HT_.out (by kernel_rfl)) (fun _ _ _ h => h) (Or.inl ⟨by rfl, ?_⟩) ?_ ?_
                    rotate_left
                    · intro w'
                      go_simp
                      with_reducible rfl
                    rotate_left
                    · simp only [Act.put, List.setIfInBounds_toArray, List.set_cons_zero, List.set_cons_succ, i64_w, i32_w]
                      rfl
                    refine take_ (i := 9) (N := some 46) (v := ?_) (a' := ?_) #[true, true, true, true, true, true, true, true, true, true, false, false] rfl rfl (take_ofW HT_.out HW_.out (by kernel_rfl)) (fun _ _ _ h => h) (Or.inl ⟨by rfl, ?_⟩) hHeld ?_ ?_
                    rotate_left
                    · rintro w' ⟨s0, s1, s2, s3, s4, s5, s6, s7, s8, s9, s10, s11⟩
                      go_simp
                      with_reducible rfl
                    rotate_left
                    · simp only [Act.put, List.setIfInBounds_toArray, List.set_cons_zero, List.set_cons_succ, i64_w, i32_w]
                      rfl
                    refine one_ (i := 10) (N := some 47) #[true, true, true, true, true, true, true, true, true, true, true, false] rfl rfl (one_of HT_.out (by kernel_rfl)) (by decide) (fun K hK => ?_)
                    refine goes_ Try.func19 (by kernel_rfl) rfl #[.agg #[.int .i64 ((rd_T36 l0_0 x5_2).f0), .slice A122_1 ((rd_T36 l0_0 x5_2).f1).length c122_1, .slice A122_2 ((rd_T36 l0_0 x5_2).f2).length c122_2], .agg #[.int .i64 ((rd_T36 l1_0 x5_2).f0), .slice A123_1 ((rd_T36 l1_0 x5_2).f1).length c123_1, .slice A123_2 ((rd_T36 l1_0 x5_2).f2).length c123_2]] (by rfl) rfl rfl (by (try simp only [List.map_toArray, List.map_cons, List.map_nil]); first | done | rfl | (simp only [List.length_drop, List.length_take]; rfl)) ?_
                    with_reducible refine (tidemillref11_LogSame.calls k2 ((rd_T36 l0_0 x5_2).f0) _ _ ((rd_T36 l0_0 x5_2).f1) _ _ ((rd_T36 l0_0 x5_2).f2) ((rd_T36 l1_0 x5_2).f0) _ _ ((rd_T36 l1_0 x5_2).f1) _ _ ((rd_T36 l1_0 x5_2).f2) true _ ?side1 ?side2 ?side3 ?side4 ?side5 ?side6 ?side7 ?side8 A21.out).mono ?_
                    (case side1 => repeat (first | exact (Kd.C_below HR122_1.out HB.out) | (with_reducible refine Kd.C_alloc ?_ _) | (with_reducible refine Kd.C_drewN ?_ _) | (with_reducible refine Kd.C_drew ?_)))
                    (case side2 => exact HC122_1.out)
                    (case side3 => repeat (first | exact (Kd.C_below HR122_2.out HB.out) | (with_reducible refine Kd.C_alloc ?_ _) | (with_reducible refine Kd.C_drewN ?_ _) | (with_reducible refine Kd.C_drew ?_)))
                    (case side4 => exact HC122_2.out)
                    (case side5 => repeat (first | exact (Kd.C_below HR123_1.out HB.out) | (with_reducible refine Kd.C_alloc ?_ _) | (with_reducible refine Kd.C_drewN ?_ _) | (with_reducible refine Kd.C_drew ?_)))
                    (case side6 => exact HC123_1.out)
                    (case side7 => repeat (first | exact (Kd.C_below HR123_2.out HB.out) | (with_reducible refine Kd.C_alloc ?_ _) | (with_reducible refine Kd.C_drewN ?_ _) | (with_reducible refine Kd.C_drew ?_)))
                    (case side8 => exact HC123_2.out)
                    rintro e w26 ⟨rfl, hb⟩
                    refine ⟨_, rfl, ?_⟩
                    have n0_ := Aside0.mk (blk_below (g := gb120) (o := .cells #[.slice (some ad122) l0_0.length c0_0, .slice A0_1 l0_1.length c0_1, .int .i64 a0_2] 29 (0, 0)) (by (with_reducible repeat (first | refine blk_drewN ?_ _ | refine blk_drew ?_ | refine blk_alloc ?_ _)); exact BK120.out) hb)
                    have n1_ := Aside0.mk (blk_below (g := gb121) (o := .cells #[.slice (some ad123) l1_0.length c1_0, .slice A1_1 l1_1.length c1_1, .int .i64 a1_2] 29 (0, 0)) (by (with_reducible repeat (first | refine blk_drewN ?_ _ | refine blk_drew ?_ | refine blk_alloc ?_ _)); exact BK121.out) hb)
                    have n2_ := Aside0.mk (below_step (by repeat (first | (with_reducible first | exact HB.out | apply below_alloc | apply pw_below_drewN | apply below_drew1 | refine below_set ?_ GE120.out | refine below_set ?_ GE121.out) | exact HB.out)) hb)
                    clear BK120
                    clear BK121
                    clear HB
                    have BK120 := n0_
                    have BK121 := n1_
                    have HB := n2_
                    clear n0_ n1_ n2_
                    (try clear hb)
                    (try clear hb2)
                    (try clear hk)
                    (try clear hi)
                    refine hK.out _ _ ⟨(blk_cell BK120.out 0).trans rfl, (blk_cell BK120.out 1).trans rfl, (blk_cell BK120.out 2).trans rfl, (blk_cell BK121.out 0).trans rfl, (blk_cell BK121.out 1).trans rfl, (blk_cell BK121.out 2).trans rfl, ((HB.out.cell (World.block_lt_of_cell? w _ hw122_0)).trans hw122_0), ((HB.out.cell (World.block_lt_of_cell? w _ hw122_1)).trans hw122_1), ((HB.out.cell (World.block_lt_of_cell? w _ hw122_2)).trans hw122_2), ((HB.out.cell (World.block_lt_of_cell? w _ hw123_0)).trans hw123_0), ((HB.out.cell (World.block_lt_of_cell? w _ hw123_1)).trans hw123_1), ((HB.out.cell (World.block_lt_of_cell? w _ hw123_2)).trans hw123_2)⟩ (fun hHeld => ?_)
                    clear hK K
                    refine norm_ (a' := ?_) ?_ ?_
                    rotate_left
                    · show Act.put _ (some 47) _ = _
                      simp only [Act.put, List.setIfInBounds_toArray, List.set_cons_zero, List.set_cons_succ, i64_w, i32_w]
                      rfl
                    refine pure_ (i := 11) (N := some 48) (v := ?_) (a' := ?_) #[true, true, true, true, true, true, true, true, true, true, true, true] rfl rfl (any_of HT_.out (by kernel_rfl)) (fun _ _ _ h => h) (Or.inl ⟨by rfl, ?_⟩) ?_ ?_
                    rotate_left
                    · intro w'
                      go_simp
                      with_reducible rfl
                    rotate_left
                    · simp only [Act.put, List.setIfInBounds_toArray, List.set_cons_zero, List.set_cons_succ, i64_w, i32_w]
                      rfl
                    refine done_ (done_of HT_.out (by kernel_rfl)) ?_
                    try go_wp2
                    go_roundg k2
                    case measure => have := HJ2.out; have := HK2.out; omega
                    case rel => exact ⟨(wrap64 (x5_2 + 1)), (by first | rfl | (simp; done) | (simp [*]; done)), H', ⟨by have := HJ2.out; have := HK2.out; omega⟩, ⟨by (with_reducible repeat (first | refine blk_drewN ?_ _ | refine blk_drew ?_ | refine blk_alloc ?_ _)); exact BK120.out⟩, ⟨by (with_reducible repeat (first | refine blk_drewN ?_ _ | refine blk_drew ?_ | refine blk_alloc ?_ _)); exact BK121.out⟩, ⟨by repeat (first | (with_reducible first | exact HB.out | apply below_alloc | apply pw_below_drewN | apply below_drew1 | refine below_set ?_ GE120.out | refine below_set ?_ GE121.out) | exact HB.out)⟩⟩
                  · replace c22 := Bool.eq_false_iff.mpr c22
                    subst c22
                    have H1 : (some false) = some r := by rw [if_neg (show ¬ (false = true) by decide)] at H; exact H
                    clear H
                    have H := H1
                    clear H1
                    obtain rfl := Option.some.inj H
                    have hnb27 := NB120_121.out
                    have hnc27 := NB121_120.out
                    have hcz28_0 : wr.cell? ⟨gb120, 0, none⟩ = some (.slice A0_0 l0_0.length c0_0) := (blk_cell BK120.out 0).trans rfl
                    have hcz28_1 : wr.cell? ⟨gb120, 1, none⟩ = some (.slice A0_1 l0_1.length c0_1) := (blk_cell BK120.out 1).trans rfl
                    have hcz28_2 : wr.cell? ⟨gb120, 2, none⟩ = some (.int .i64 a0_2) := (blk_cell BK120.out 2).trans rfl
                    have hfz28_0 := blk_frozen BK120.out 0
                    have hfz28_1 := blk_frozen BK120.out 1
                    have hfz28_2 := blk_frozen BK120.out 2
                    try go_wp2
                    have n0_ := Aside0.mk (blk_drew BK120.out)
                    have n1_ := Aside0.mk (blk_drew BK121.out)
                    have n2_ := Aside0.mk (below_drew1 HB.out)
                    clear BK120
                    clear BK121
                    clear HB
                    have BK120 := n0_
                    have BK121 := n1_
                    have HB := n2_
                    clear n0_ n1_ n2_
                    have p122 : 0 ≤ (x5_2 : Int) := of_decide_eq_true (by first | (with_reducible assumption) | assumption)
                    have q122 : x5_2 < (l0_0.length : Int) := of_decide_eq_true (by first | (with_reducible assumption) | assumption)
                    obtain ⟨ad122, A122_1, c122_1, A122_2, c122_2, e122, hx122_0, hx122_1, hx122_2, hl122_1, hi122_1, hl122_2, hi122_2⟩ := at_T36 HR0_0.out x5_2 p122 q122
                    have hw122_2 := hx122_2
                    have hw122_1 := hx122_1
                    have hw122_0 := hx122_0
                    cases e122
                    replace hx122_0 := (HB.out.cell (World.block_lt_of_cell? w _ hx122_0)).trans hx122_0
                    replace hx122_1 := (HB.out.cell (World.block_lt_of_cell? w _ hx122_1)).trans hx122_1
                    replace hx122_2 := (HB.out.cell (World.block_lt_of_cell? w _ hx122_2)).trans hx122_2
                    have HR122_1 := Aside0.mk hi122_1
                    have HC122_1 := Aside0.mk hl122_1
                    clear hi122_1 hl122_1
                    have HR122_2 := Aside0.mk hi122_2
                    have HC122_2 := Aside0.mk hl122_2
                    clear hi122_2 hl122_2
                    replace p122 := eq_true p122
                    replace q122 := eq_true q122
                    have p123 : 0 ≤ (x5_2 : Int) := of_decide_eq_true (by first | (with_reducible assumption) | assumption)
                    have q123 : x5_2 < (l1_0.length : Int) := of_decide_eq_true (by first | (with_reducible assumption) | assumption)
                    obtain ⟨ad123, A123_1, c123_1, A123_2, c123_2, e123, hx123_0, hx123_1, hx123_2, hl123_1, hi123_1, hl123_2, hi123_2⟩ := at_T36 HR1_0.out x5_2 p123 q123
                    have hw123_2 := hx123_2
                    have hw123_1 := hx123_1
                    have hw123_0 := hx123_0
                    cases e123
                    replace hx123_0 := (HB.out.cell (World.block_lt_of_cell? w _ hx123_0)).trans hx123_0
                    replace hx123_1 := (HB.out.cell (World.block_lt_of_cell? w _ hx123_1)).trans hx123_1
                    replace hx123_2 := (HB.out.cell (World.block_lt_of_cell? w _ hx123_2)).trans hx123_2
                    have HR123_1 := Aside0.mk hi123_1
                    have HC123_1 := Aside0.mk hl123_1
                    clear hi123_1 hl123_1
                    have HR123_2 := Aside0.mk hi123_2
                    have HC123_2 := Aside0.mk hl123_2
                    clear hi123_2 hl123_2
                    replace p123 := eq_true p123
                    replace q123 := eq_true q123
                    refine start_ (n := 12) (S := fun w' => w'.cell? ⟨gb120, 0, none⟩ = some (.slice (some ad122) l0_0.length c0_0) ∧ w'.cell? ⟨gb120, 1, none⟩ = some (.slice A0_1 l0_1.length c0_1) ∧ w'.cell? ⟨gb120, 2, none⟩ = some (.int .i64 a0_2) ∧ w'.cell? ⟨gb121, 0, none⟩ = some (.slice (some ad123) l1_0.length c1_0) ∧ w'.cell? ⟨gb121, 1, none⟩ = some (.slice A1_1 l1_1.length c1_1) ∧ w'.cell? ⟨gb121, 2, none⟩ = some (.int .i64 a1_2) ∧ w'.cell? (ad122.add ((x5_2).toNat * 3)) = some (.int .i64 ((rd_T36 l0_0 x5_2).f0)) ∧ w'.cell? ⟨(ad122.add ((x5_2).toNat * 3)).block, (ad122.add ((x5_2).toNat * 3)).off + 1, none⟩ = some (.slice A122_1 ((rd_T36 l0_0 x5_2).f1).length c122_1) ∧ w'.cell? ⟨(ad122.add ((x5_2).toNat * 3)).block, (ad122.add ((x5_2).toNat * 3)).off + 2, none⟩ = some (.slice A122_2 ((rd_T36 l0_0 x5_2).f2).length c122_2) ∧ w'.cell? (ad123.add ((x5_2).toNat * 3)) = some (.int .i64 ((rd_T36 l1_0 x5_2).f0)) ∧ w'.cell? ⟨(ad123.add ((x5_2).toNat * 3)).block, (ad123.add ((x5_2).toNat * 3)).off + 1, none⟩ = some (.slice A123_1 ((rd_T36 l1_0 x5_2).f1).length c123_1) ∧ w'.cell? ⟨(ad123.add ((x5_2).toNat * 3)).block, (ad123.add ((x5_2).toNat * 3)).off + 2, none⟩ = some (.slice A123_2 ((rd_T36 l1_0 x5_2).f2).length c123_2)) (ds := []) #[false, false, false, false, false, false, false, false, false, false, false, false] (by kernel_rfl) rfl rfl ⟨(blk_cell BK120.out 0).trans rfl, (blk_cell BK120.out 1).trans rfl, (blk_cell BK120.out 2).trans rfl, (blk_cell BK121.out 0).trans rfl, (blk_cell BK121.out 1).trans rfl, (blk_cell BK121.out 2).trans rfl, ((HB.out.cell (World.block_lt_of_cell? w _ hw122_0)).trans hw122_0), ((HB.out.cell (World.block_lt_of_cell? w _ hw122_1)).trans hw122_1), ((HB.out.cell (World.block_lt_of_cell? w _ hw122_2)).trans hw122_2), ((HB.out.cell (World.block_lt_of_cell? w _ hw123_0)).trans hw123_0), ((HB.out.cell (World.block_lt_of_cell? w _ hw123_1)).trans hw123_1), ((HB.out.cell (World.block_lt_of_cell? w _ hw123_2)).trans hw123_2)⟩ (fun hHeld => ?_); refine with_tabW tidemillref11_Same.tab6 tidemillref11_Same.bits6 (fun HT_ HW_ => ?_)
                    generalize wr.drew = w29 at BK120 BK121 HB HR122_1 HR122_2 HR123_1 HR123_2 hx122_0 hx122_1 hx122_2 hx123_0 hx123_1 hx123_2 hHeld ⊢
                    refine pure_ (i := 0) (N := some 37) (v := ?_) (a' := ?_) #[true, false, false, false, false, false, false, false, false, false, false, false] rfl rfl (any_of HT_.out (by kernel_rfl)) (fun _ _ _ h => h) (Or.inl ⟨by rfl, ?_⟩) ?_ ?_
                    rotate_left
                    · intro w'
                      go_simp
                      with_reducible rfl
                    rotate_left
                    · simp only [Act.put, List.setIfInBounds_toArray, List.set_cons_zero, List.set_cons_succ, i64_w, i32_w]
                      rfl
                    refine pure_ (i := 2) (N := some 39) (v := ?_) (a' := ?_) #[true, false, true, false, false, false, false, false, false, false, false, false] rfl rfl (any_of HT_.out (by kernel_rfl)) (fun _ _ _ h => h) (Or.inl ⟨by rfl, ?_⟩) ?_ ?_
                    rotate_left
                    · intro w'
                      go_simp
                      with_reducible rfl
                    rotate_left
                    · simp only [Act.put, List.setIfInBounds_toArray, List.set_cons_zero, List.set_cons_succ, i64_w, i32_w]
                      rfl
                    refine pure_ (i := 5) (N := some 42) (v := ?_) (a' := ?_) #[true, false, true, false, false, true, false, false, false, false, false, false] rfl rfl (any_of HT_.out (by kernel_rfl)) (fun _ _ _ h => h) (Or.inl ⟨by rfl, ?_⟩) ?_ ?_
                    rotate_left
                    · intro w'
                      go_simp
                      with_reducible rfl
                    rotate_left
                    · simp only [Act.put, List.setIfInBounds_toArray, List.set_cons_zero, List.set_cons_succ, i64_w, i32_w]
                      rfl
                    refine pure_ (i := 7) (N := some 44) (v := ?_) (a' := ?_) #[true, false, true, false, false, true, false, true, false, false, false, false] rfl rfl (any_of HT_.out (by kernel_rfl)) (fun _ _ _ h => h) (Or.inl ⟨by rfl, ?_⟩) ?_ ?_
                    rotate_left
                    · intro w'
                      go_simp
                      with_reducible rfl
                    rotate_left
                    · simp only [Act.put, List.setIfInBounds_toArray, List.set_cons_zero, List.set_cons_succ, i64_w, i32_w]
                      rfl
                    refine take_ (i := 1) (N := some 38) (v := ?_) (a' := ?_) #[true, true, true, false, false, true, false, true, false, false, false, false] rfl rfl (take_ofW HT_.out HW_.out (by kernel_rfl)) (fun _ _ _ h => h) (Or.inl ⟨by rfl, ?_⟩) hHeld ?_ ?_
                    rotate_left
                    · rintro w' ⟨s0, s1, s2, s3, s4, s5, s6, s7, s8, s9, s10, s11⟩
                      go_simp
                      with_reducible rfl
                    rotate_left
                    · simp only [Act.put, List.setIfInBounds_toArray, List.set_cons_zero, List.set_cons_succ, i64_w, i32_w]
                      rfl
                    refine pure_ (i := 3) (N := some 40) (v := ?_) (a' := ?_) #[true, true, true, true, false, true, false, true, false, false, false, false] rfl rfl (any_of HT_.out (by kernel_rfl)) (fun _ _ _ h => h) (Or.inl ⟨by rfl, ?_⟩) ?_ ?_
                    rotate_left
                    · intro w'
                      go_simp
                      with_reducible rfl
                    rotate_left
                    · simp only [Act.put, List.setIfInBounds_toArray, List.set_cons_zero, List.set_cons_succ, i64_w, i32_w]
                      rfl
                    refine take_ (i := 4) (N := some 41) (v := ?_) (a' := ?_) #[true, true, true, true, true, true, false, true, false, false, false, false] rfl rfl (take_ofW HT_.out HW_.out (by kernel_rfl)) (fun _ _ _ h => h) (Or.inl ⟨by rfl, ?_⟩) hHeld ?_ ?_
                    rotate_left
                    · rintro w' ⟨s0, s1, s2, s3, s4, s5, s6, s7, s8, s9, s10, s11⟩
                      go_simp
                      with_reducible rfl
                    rotate_left
                    · simp only [Act.put, List.setIfInBounds_toArray, List.set_cons_zero, List.set_cons_succ, i64_w, i32_w]
                      rfl
                    refine take_ (i := 6) (N := some 43) (v := ?_) (a' := ?_) #[true, true, true, true, true, true, true, true, false, false, false, false] rfl rfl (take_ofW HT_.out HW_.out (by kernel_rfl)) (fun _ _ _ h => h) (Or.inl ⟨by rfl, ?_⟩) hHeld ?_ ?_
                    rotate_left
                    · rintro w' ⟨s0, s1, s2, s3, s4, s5, s6, s7, s8, s9, s10, s11⟩
                      go_simp
                      with_reducible rfl
                    rotate_left
                    · simp only [Act.put, List.setIfInBounds_toArray, List.set_cons_zero, List.set_cons_succ, i64_w, i32_w]
                      rfl
                    refine pure_ (i := 8) (N := some 45) (v := ?_) (a' := ?_) #[true, true, true, true, true, true, true, true, true, false, false, false] rfl rfl (any_of HT_.out (by kernel_rfl)) (fun _ _ _ h => h) (Or.inl ⟨by rfl, ?_⟩) ?_ ?_
                    rotate_left
                    · intro w'
                      go_simp
                      with_reducible rfl
                    rotate_left
                    · simp only [Act.put, List.setIfInBounds_toArray, List.set_cons_zero, List.set_cons_succ, i64_w, i32_w]
                      rfl
                    refine take_ (i := 9) (N := some 46) (v := ?_) (a' := ?_) #[true, true, true, true, true, true, true, true, true, true, false, false] rfl rfl (take_ofW HT_.out HW_.out (by kernel_rfl)) (fun _ _ _ h => h) (Or.inl ⟨by rfl, ?_⟩) hHeld ?_ ?_
                    rotate_left
                    · rintro w' ⟨s0, s1, s2, s3, s4, s5, s6, s7, s8, s9, s10, s11⟩
                      go_simp
                      with_reducible rfl
                    rotate_left
                    · simp only [Act.put, List.setIfInBounds_toArray, List.set_cons_zero, List.set_cons_succ, i64_w, i32_w]
                      rfl
                    refine one_ (i := 10) (N := some 47) #[true, true, true, true, true, true, true, true, true, true, true, false] rfl rfl (one_of HT_.out (by kernel_rfl)) (by decide) (fun K hK => ?_)
                    refine goes_ Try.func19 (by kernel_rfl) rfl #[.agg #[.int .i64 ((rd_T36 l0_0 x5_2).f0), .slice A122_1 ((rd_T36 l0_0 x5_2).f1).length c122_1, .slice A122_2 ((rd_T36 l0_0 x5_2).f2).length c122_2], .agg #[.int .i64 ((rd_T36 l1_0 x5_2).f0), .slice A123_1 ((rd_T36 l1_0 x5_2).f1).length c123_1, .slice A123_2 ((rd_T36 l1_0 x5_2).f2).length c123_2]] (by rfl) rfl rfl (by (try simp only [List.map_toArray, List.map_cons, List.map_nil]); first | done | rfl | (simp only [List.length_drop, List.length_take]; rfl)) ?_
                    with_reducible refine (tidemillref11_LogSame.calls k2 ((rd_T36 l0_0 x5_2).f0) _ _ ((rd_T36 l0_0 x5_2).f1) _ _ ((rd_T36 l0_0 x5_2).f2) ((rd_T36 l1_0 x5_2).f0) _ _ ((rd_T36 l1_0 x5_2).f1) _ _ ((rd_T36 l1_0 x5_2).f2) false _ ?side1 ?side2 ?side3 ?side4 ?side5 ?side6 ?side7 ?side8 A21.out).mono ?_
                    (case side1 => repeat (first | exact (Kd.C_below HR122_1.out HB.out) | (with_reducible refine Kd.C_alloc ?_ _) | (with_reducible refine Kd.C_drewN ?_ _) | (with_reducible refine Kd.C_drew ?_)))
                    (case side2 => exact HC122_1.out)
                    (case side3 => repeat (first | exact (Kd.C_below HR122_2.out HB.out) | (with_reducible refine Kd.C_alloc ?_ _) | (with_reducible refine Kd.C_drewN ?_ _) | (with_reducible refine Kd.C_drew ?_)))
                    (case side4 => exact HC122_2.out)
                    (case side5 => repeat (first | exact (Kd.C_below HR123_1.out HB.out) | (with_reducible refine Kd.C_alloc ?_ _) | (with_reducible refine Kd.C_drewN ?_ _) | (with_reducible refine Kd.C_drew ?_)))
                    (case side6 => exact HC123_1.out)
                    (case side7 => repeat (first | exact (Kd.C_below HR123_2.out HB.out) | (with_reducible refine Kd.C_alloc ?_ _) | (with_reducible refine Kd.C_drewN ?_ _) | (with_reducible refine Kd.C_drew ?_)))
                    (case side8 => exact HC123_2.out)
                    rintro e w30 ⟨rfl, hb⟩
                    refine ⟨_, rfl, ?_⟩
                    have n0_ := Aside0.mk (blk_below (g := gb120) (o := .cells #[.slice (some ad122) l0_0.length c0_0, .slice A0_1 l0_1.length c0_1, .int .i64 a0_2] 29 (0, 0)) (by (with_reducible repeat (first | refine blk_drewN ?_ _ | refine blk_drew ?_ | refine blk_alloc ?_ _)); exact BK120.out) hb)
                    have n1_ := Aside0.mk (blk_below (g := gb121) (o := .cells #[.slice (some ad123) l1_0.length c1_0, .slice A1_1 l1_1.length c1_1, .int .i64 a1_2] 29 (0, 0)) (by (with_reducible repeat (first | refine blk_drewN ?_ _ | refine blk_drew ?_ | refine blk_alloc ?_ _)); exact BK121.out) hb)
                    have n2_ := Aside0.mk (below_step (by repeat (first | (with_reducible first | exact HB.out | apply below_alloc | apply pw_below_drewN | apply below_drew1 | refine below_set ?_ GE120.out | refine below_set ?_ GE121.out) | exact HB.out)) hb)
                    clear BK120
                    clear BK121
                    clear HB
                    have BK120 := n0_
                    have BK121 := n1_
                    have HB := n2_
                    clear n0_ n1_ n2_
                    (try clear hb)
                    (try clear hb2)
                    (try clear hk)
                    (try clear hi)
                    refine hK.out _ _ ⟨(blk_cell BK120.out 0).trans rfl, (blk_cell BK120.out 1).trans rfl, (blk_cell BK120.out 2).trans rfl, (blk_cell BK121.out 0).trans rfl, (blk_cell BK121.out 1).trans rfl, (blk_cell BK121.out 2).trans rfl, ((HB.out.cell (World.block_lt_of_cell? w _ hw122_0)).trans hw122_0), ((HB.out.cell (World.block_lt_of_cell? w _ hw122_1)).trans hw122_1), ((HB.out.cell (World.block_lt_of_cell? w _ hw122_2)).trans hw122_2), ((HB.out.cell (World.block_lt_of_cell? w _ hw123_0)).trans hw123_0), ((HB.out.cell (World.block_lt_of_cell? w _ hw123_1)).trans hw123_1), ((HB.out.cell (World.block_lt_of_cell? w _ hw123_2)).trans hw123_2)⟩ (fun hHeld => ?_)
                    clear hK K
                    refine norm_ (a' := ?_) ?_ ?_
                    rotate_left
                    · show Act.put _ (some 47) _ = _
                      simp only [Act.put, List.setIfInBounds_toArray, List.set_cons_zero, List.set_cons_succ, i64_w, i32_w]
                      rfl
                    refine pure_ (i := 11) (N := some 48) (v := ?_) (a' := ?_) #[true, true, true, true, true, true, true, true, true, true, true, true] rfl rfl (any_of HT_.out (by kernel_rfl)) (fun _ _ _ h => h) (Or.inl ⟨by rfl, ?_⟩) ?_ ?_
                    rotate_left
                    · intro w'
                      go_simp
                      with_reducible rfl
                    rotate_left
                    · simp only [Act.put, List.setIfInBounds_toArray, List.set_cons_zero, List.set_cons_succ, i64_w, i32_w]
                      rfl
                    refine done_ (done_of HT_.out (by kernel_rfl)) ?_
                    try go_wp2
                    go_ret
                    exact ⟨by first | rfl | (simp [errW_none, errW_some] <;> rfl) | (simp [*, errW_none, errW_some] <;> rfl), by repeat (first | (with_reducible first | exact HB.out | apply below_alloc | apply pw_below_drewN | apply below_drew1 | refine below_set ?_ GE120.out | refine below_set ?_ GE121.out) | exact HB.out)⟩
                · rw [if_neg c20] at H
                  exact absurd H (by simp)
              · rw [if_neg c19] at H
                exact absurd H (by simp)
            · rw [if_neg c18] at H
              have c18b0 : decide (x5_2 < (l0_0.length : Int)) = false := decide_eq_false c18
              clear c18
              have H' := Aside0.mk H
              clear H
              have hnb31 := NB120_121.out
              have hnc31 := NB121_120.out
              have hcz32_0 : wr.cell? ⟨gb120, 0, none⟩ = some (.slice A0_0 l0_0.length c0_0) := (blk_cell BK120.out 0).trans rfl
              have hcz32_1 : wr.cell? ⟨gb120, 1, none⟩ = some (.slice A0_1 l0_1.length c0_1) := (blk_cell BK120.out 1).trans rfl
              have hcz32_2 : wr.cell? ⟨gb120, 2, none⟩ = some (.int .i64 a0_2) := (blk_cell BK120.out 2).trans rfl
              have hfz32_0 := blk_frozen BK120.out 0
              have hfz32_1 := blk_frozen BK120.out 1
              have hfz32_2 := blk_frozen BK120.out 2
              go_wp2
              go_loopg [6] k2 (fun kq v6 w' => ∃ (x6_3 : Int), v6 = .int .i64 x6_3 ∧ Aside0 (tidemillref11_Same.l1 kq x6_3 l0_0 l0_1 a0_2 l1_0 l1_1 a1_2 = some r) ∧ Aside0 (kq ≤ k2) ∧ Aside0 (w'.heap[gb120]? = some (.cells #[(.slice A0_0 l0_0.length c0_0), (.slice A0_1 l0_1.length c0_1), .int .i64 a0_2] 29 (0, 0))) ∧ Aside0 (w'.heap[gb121]? = some (.cells #[(.slice A1_0 l1_0.length c1_0), (.slice A1_1 l1_1.length c1_1), .int .i64 a1_2] 29 (0, 0))) ∧ Aside0 (Below w.heap.size w w'))
              case atStart => exact ⟨(0), (by first | rfl | (simp; done) | (simp [*]; done)), H', ⟨Nat.le_refl _⟩, ⟨by (with_reducible repeat (first | refine blk_drewN ?_ _ | refine blk_drew ?_ | refine blk_alloc ?_ _)); exact BK120.out⟩, ⟨by (with_reducible repeat (first | refine blk_drewN ?_ _ | refine blk_drew ?_ | refine blk_alloc ?_ _)); exact BK121.out⟩, ⟨by repeat (first | (with_reducible first | exact HB.out | apply below_alloc | apply pw_below_drewN | apply below_drew1 | refine below_set ?_ GE120.out | refine below_set ?_ GE121.out) | exact HB.out)⟩⟩
              case round =>
                clear H'
                try clear c1
                try clear p1
                try clear q1
                try clear hx1
                try clear c2
                try clear p2
                try clear c3
                try clear c6
                try clear c6b0
                try clear c6b1
                try clear p6
                try clear c7
                try clear c7b0
                try clear c7b1
                try clear c7b2
                try clear c8
                try clear c11
                try clear c12
                try clear p12
                try clear q12
                try clear hx12
                try clear c14
                try clear c17
                try clear c18
                try clear c18b0
                try clear c19
                try clear c19b0
                try clear c20
                try clear c20b0
                try clear c22
                try clear c23
                try clear c27
                try clear c31
                try clear hcz10_0
                try clear hcz10_1
                try clear hcz10_2
                try clear hcz12_0
                try clear hcz12_1
                try clear hcz12_2
                try clear hcz13_0
                try clear hcz13_1
                try clear hcz13_2
                try clear hcz15_0
                try clear hcz15_1
                try clear hcz15_2
                try clear hcz16_0
                try clear hcz16_1
                try clear hcz16_2
                try clear hcz24_0
                try clear hcz24_1
                try clear hcz24_2
                try clear hcz28_0
                try clear hcz28_1
                try clear hcz28_2
                try clear hcz32_0
                try clear hcz32_1
                try clear hcz32_2
                try clear hcz9_0
                try clear hcz9_1
                try clear hcz9_2
                try clear hfz10_0
                try clear hfz10_1
                try clear hfz10_2
                try clear hfz12_0
                try clear hfz12_1
                try clear hfz12_2
                try clear hfz13_0
                try clear hfz13_1
                try clear hfz13_2
                try clear hfz15_0
                try clear hfz15_1
                try clear hfz15_2
                try clear hfz16_0
                try clear hfz16_1
                try clear hfz16_2
                try clear hfz24_0
                try clear hfz24_1
                try clear hfz24_2
                try clear hfz28_0
                try clear hfz28_1
                try clear hfz28_2
                try clear hfz32_0
                try clear hfz32_1
                try clear hfz32_2
                try clear hfz9_0
                try clear hfz9_1
                try clear hfz9_2
                try clear hx122_0
                try clear hx122_1
                try clear hx122_2
                try clear hx123_0
                try clear hx123_1
                try clear hx123_2
                try clear p122
                try clear p123
                try clear p2
                try clear q122
                try clear q123
                obtain ⟨x6_3, rfl, HA, HK3, BK120, BK121, HB⟩ := hrel
                cases gk with
                | zero => exact absurd HA.out (by simp [tidemillref11_Same.l1])
                | succ k3 =>
                  have H := HA.out
                  clear HA
                  simp only [tidemillref11_Same.l1] at H
                  by_cases c33 : x6_3 < (l0_1.length : Int)
                  · rw [if_pos c33] at H
                    have c33b0 : decide (x6_3 < (l0_1.length : Int)) = true := decide_eq_true c33
                    clear c33
                    by_cases c34 : 0 ≤ x6_3
                    · rw [if_pos c34] at H
                      have c34b0 : decide (0 ≤ x6_3) = true := decide_eq_true c34
                      clear c34
                      by_cases c35 : x6_3 < (l1_1.length : Int)
                      · rw [if_pos c35] at H
                        have c35b0 : decide (x6_3 < (l1_1.length : Int)) = true := decide_eq_true c35
                        clear c35
                        replace H := Option.bind_eq_some_iff.mp H
                        obtain ⟨t127, A360, H⟩ := H
                        replace H : (if t127 = true then (tidemillref11_Same.l1 k3 (wrap64 (x6_3 + 1)) l0_0 l0_1 a0_2 l1_0 l1_1 a1_2) else (some false)) = some r := H
                        have A36 := Aside0.mk A360
                        clear A360
                        by_cases c37 : t127 = true
                        · subst c37
                          have H1 : (tidemillref11_Same.l1 k3 (wrap64 (x6_3 + 1)) l0_0 l0_1 a0_2 l1_0 l1_1 a1_2) = some r := by rw [if_pos rfl] at H; exact H
                          clear H
                          have H := H1
                          clear H1
                          have H' := Aside0.mk H
                          clear H
                          have hnb38 := NB120_121.out
                          have hnc38 := NB121_120.out
                          have hcz39_0 : wr.cell? ⟨gb120, 0, none⟩ = some (.slice A0_0 l0_0.length c0_0) := (blk_cell BK120.out 0).trans rfl
                          have hcz39_1 : wr.cell? ⟨gb120, 1, none⟩ = some (.slice A0_1 l0_1.length c0_1) := (blk_cell BK120.out 1).trans rfl
                          have hcz39_2 : wr.cell? ⟨gb120, 2, none⟩ = some (.int .i64 a0_2) := (blk_cell BK120.out 2).trans rfl
                          have hfz39_0 := blk_frozen BK120.out 0
                          have hfz39_1 := blk_frozen BK120.out 1
                          have hfz39_2 := blk_frozen BK120.out 2
                          try go_wp2
                          have n0_ := Aside0.mk (blk_drew BK120.out)
                          have n1_ := Aside0.mk (blk_drew BK121.out)
                          have n2_ := Aside0.mk (below_drew1 HB.out)
                          clear BK120
                          clear BK121
                          clear HB
                          have BK120 := n0_
                          have BK121 := n1_
                          have HB := n2_
                          clear n0_ n1_ n2_
                          have p125 : 0 ≤ (x6_3 : Int) := of_decide_eq_true (by first | (with_reducible assumption) | assumption)
                          have q125 : x6_3 < (l0_1.length : Int) := of_decide_eq_true (by first | (with_reducible assumption) | assumption)
                          obtain ⟨ad125, A125_3, c125_3, A125_4, c125_4, e125, hx125_0, hx125_1, hx125_2, hx125_3, hx125_4, hx125_5, hl125_3, hi125_3, hl125_4, hi125_4⟩ := at_T41 HR0_1.out x6_3 p125 q125
                          have hw125_5 := hx125_5
                          have hw125_4 := hx125_4
                          have hw125_3 := hx125_3
                          have hw125_2 := hx125_2
                          have hw125_1 := hx125_1
                          have hw125_0 := hx125_0
                          cases e125
                          replace hx125_0 := (HB.out.cell (World.block_lt_of_cell? w _ hx125_0)).trans hx125_0
                          replace hx125_1 := (HB.out.cell (World.block_lt_of_cell? w _ hx125_1)).trans hx125_1
                          replace hx125_2 := (HB.out.cell (World.block_lt_of_cell? w _ hx125_2)).trans hx125_2
                          replace hx125_3 := (HB.out.cell (World.block_lt_of_cell? w _ hx125_3)).trans hx125_3
                          replace hx125_4 := (HB.out.cell (World.block_lt_of_cell? w _ hx125_4)).trans hx125_4
                          replace hx125_5 := (HB.out.cell (World.block_lt_of_cell? w _ hx125_5)).trans hx125_5
                          have HR125_3 := Aside0.mk hi125_3
                          have HC125_3 := Aside0.mk hl125_3
                          clear hi125_3 hl125_3
                          have HR125_4 := Aside0.mk hi125_4
                          have HC125_4 := Aside0.mk hl125_4
                          clear hi125_4 hl125_4
                          replace p125 := eq_true p125
                          replace q125 := eq_true q125
                          have p126 : 0 ≤ (x6_3 : Int) := of_decide_eq_true (by first | (with_reducible assumption) | assumption)
                          have q126 : x6_3 < (l1_1.length : Int) := of_decide_eq_true (by first | (with_reducible assumption) | assumption)
                          obtain ⟨ad126, A126_3, c126_3, A126_4, c126_4, e126, hx126_0, hx126_1, hx126_2, hx126_3, hx126_4, hx126_5, hl126_3, hi126_3, hl126_4, hi126_4⟩ := at_T41 HR1_1.out x6_3 p126 q126
                          have hw126_5 := hx126_5
                          have hw126_4 := hx126_4
                          have hw126_3 := hx126_3
                          have hw126_2 := hx126_2
                          have hw126_1 := hx126_1
                          have hw126_0 := hx126_0
                          cases e126
                          replace hx126_0 := (HB.out.cell (World.block_lt_of_cell? w _ hx126_0)).trans hx126_0
                          replace hx126_1 := (HB.out.cell (World.block_lt_of_cell? w _ hx126_1)).trans hx126_1
                          replace hx126_2 := (HB.out.cell (World.block_lt_of_cell? w _ hx126_2)).trans hx126_2
                          replace hx126_3 := (HB.out.cell (World.block_lt_of_cell? w _ hx126_3)).trans hx126_3
                          replace hx126_4 := (HB.out.cell (World.block_lt_of_cell? w _ hx126_4)).trans hx126_4
                          replace hx126_5 := (HB.out.cell (World.block_lt_of_cell? w _ hx126_5)).trans hx126_5
                          have HR126_3 := Aside0.mk hi126_3
                          have HC126_3 := Aside0.mk hl126_3
                          clear hi126_3 hl126_3
                          have HR126_4 := Aside0.mk hi126_4
                          have HC126_4 := Aside0.mk hl126_4
                          clear hi126_4 hl126_4
                          replace p126 := eq_true p126
                          replace q126 := eq_true q126
                          refine start_ (n := 12) (S := fun w' => w'.cell? ⟨gb120, 0, none⟩ = some (.slice A0_0 l0_0.length c0_0) ∧ w'.cell? ⟨gb120, 1, none⟩ = some (.slice (some ad125) l0_1.length c0_1) ∧ w'.cell? ⟨gb120, 2, none⟩ = some (.int .i64 a0_2) ∧ w'.cell? ⟨gb121, 0, none⟩ = some (.slice A1_0 l1_0.length c1_0) ∧ w'.cell? ⟨gb121, 1, none⟩ = some (.slice (some ad126) l1_1.length c1_1) ∧ w'.cell? ⟨gb121, 2, none⟩ = some (.int .i64 a1_2) ∧ w'.cell? (ad125.add ((x6_3).toNat * 6)) = some (.int .i64 ((rd_T41 l0_1 x6_3).f0)) ∧ w'.cell? ⟨(ad125.add ((x6_3).toNat * 6)).block, (ad125.add ((x6_3).toNat * 6)).off + 1, none⟩ = some (.int .i64 ((rd_T41 l0_1 x6_3).f1)) ∧ w'.cell? ⟨(ad125.add ((x6_3).toNat * 6)).block, (ad125.add ((x6_3).toNat * 6)).off + 2, none⟩ = some (.int .i64 ((rd_T41 l0_1 x6_3).f2)) ∧ w'.cell? ⟨(ad125.add ((x6_3).toNat * 6)).block, (ad125.add ((x6_3).toNat * 6)).off + 3, none⟩ = some (.slice A125_3 ((rd_T41 l0_1 x6_3).f3).length c125_3) ∧ w'.cell? ⟨(ad125.add ((x6_3).toNat * 6)).block, (ad125.add ((x6_3).toNat * 6)).off + 4, none⟩ = some (.slice A125_4 ((rd_T41 l0_1 x6_3).f4).length c125_4) ∧ w'.cell? ⟨(ad125.add ((x6_3).toNat * 6)).block, (ad125.add ((x6_3).toNat * 6)).off + 5, none⟩ = some (.int .i64 ((rd_T41 l0_1 x6_3).f5)) ∧ w'.cell? (ad126.add ((x6_3).toNat * 6)) = some (.int .i64 ((rd_T41 l1_1 x6_3).f0)) ∧ w'.cell? ⟨(ad126.add ((x6_3).toNat * 6)).block, (ad126.add ((x6_3).toNat * 6)).off + 1, none⟩ = some (.int .i64 ((rd_T41 l1_1 x6_3).f1)) ∧ w'.cell? ⟨(ad126.add ((x6_3).toNat * 6)).block, (ad126.add ((x6_3).toNat * 6)).off + 2, none⟩ = some (.int .i64 ((rd_T41 l1_1 x6_3).f2)) ∧ w'.cell? ⟨(ad126.add ((x6_3).toNat * 6)).block, (ad126.add ((x6_3).toNat * 6)).off + 3, none⟩ = some (.slice A126_3 ((rd_T41 l1_1 x6_3).f3).length c126_3) ∧ w'.cell? ⟨(ad126.add ((x6_3).toNat * 6)).block, (ad126.add ((x6_3).toNat * 6)).off + 4, none⟩ = some (.slice A126_4 ((rd_T41 l1_1 x6_3).f4).length c126_4) ∧ w'.cell? ⟨(ad126.add ((x6_3).toNat * 6)).block, (ad126.add ((x6_3).toNat * 6)).off + 5, none⟩ = some (.int .i64 ((rd_T41 l1_1 x6_3).f5))) (ds := []) #[false, false, false, false, false, false, false, false, false, false, false, false] (by kernel_rfl) rfl rfl ⟨(blk_cell BK120.out 0).trans rfl, (blk_cell BK120.out 1).trans rfl, (blk_cell BK120.out 2).trans rfl, (blk_cell BK121.out 0).trans rfl, (blk_cell BK121.out 1).trans rfl, (blk_cell BK121.out 2).trans rfl, ((HB.out.cell (World.block_lt_of_cell? w _ hw125_0)).trans hw125_0), ((HB.out.cell (World.block_lt_of_cell? w _ hw125_1)).trans hw125_1), ((HB.out.cell (World.block_lt_of_cell? w _ hw125_2)).trans hw125_2), ((HB.out.cell (World.block_lt_of_cell? w _ hw125_3)).trans hw125_3), ((HB.out.cell (World.block_lt_of_cell? w _ hw125_4)).trans hw125_4), ((HB.out.cell (World.block_lt_of_cell? w _ hw125_5)).trans hw125_5), ((HB.out.cell (World.block_lt_of_cell? w _ hw126_0)).trans hw126_0), ((HB.out.cell (World.block_lt_of_cell? w _ hw126_1)).trans hw126_1), ((HB.out.cell (World.block_lt_of_cell? w _ hw126_2)).trans hw126_2), ((HB.out.cell (World.block_lt_of_cell? w _ hw126_3)).trans hw126_3), ((HB.out.cell (World.block_lt_of_cell? w _ hw126_4)).trans hw126_4), ((HB.out.cell (World.block_lt_of_cell? w _ hw126_5)).trans hw126_5)⟩ (fun hHeld => ?_); refine with_tabW tidemillref11_Same.tab11 tidemillref11_Same.bits11 (fun HT_ HW_ => ?_)
                          generalize wr.drew = w40 at BK120 BK121 HB HR125_3 HR125_4 HR126_3 HR126_4 hx125_0 hx125_1 hx125_2 hx125_3 hx125_4 hx125_5 hx126_0 hx126_1 hx126_2 hx126_3 hx126_4 hx126_5 hHeld ⊢
                          refine pure_ (i := 0) (N := some 56) (v := ?_) (a' := ?_) #[true, false, false, false, false, false, false, false, false, false, false, false] rfl rfl (any_of HT_.out (by kernel_rfl)) (fun _ _ _ h => h) (Or.inl ⟨by rfl, ?_⟩) ?_ ?_
                          rotate_left
                          · intro w'
                            go_simp
                            with_reducible rfl
                          rotate_left
                          · simp only [Act.put, List.setIfInBounds_toArray, List.set_cons_zero, List.set_cons_succ, i64_w, i32_w]
                            rfl
                          refine pure_ (i := 2) (N := some 58) (v := ?_) (a' := ?_) #[true, false, true, false, false, false, false, false, false, false, false, false] rfl rfl (any_of HT_.out (by kernel_rfl)) (fun _ _ _ h => h) (Or.inl ⟨by rfl, ?_⟩) ?_ ?_
                          rotate_left
                          · intro w'
                            go_simp
                            with_reducible rfl
                          rotate_left
                          · simp only [Act.put, List.setIfInBounds_toArray, List.set_cons_zero, List.set_cons_succ, i64_w, i32_w]
                            rfl
                          refine pure_ (i := 5) (N := some 61) (v := ?_) (a' := ?_) #[true, false, true, false, false, true, false, false, false, false, false, false] rfl rfl (any_of HT_.out (by kernel_rfl)) (fun _ _ _ h => h) (Or.inl ⟨by rfl, ?_⟩) ?_ ?_
                          rotate_left
                          · intro w'
                            go_simp
                            with_reducible rfl
                          rotate_left
                          · simp only [Act.put, List.setIfInBounds_toArray, List.set_cons_zero, List.set_cons_succ, i64_w, i32_w]
                            rfl
                          refine pure_ (i := 7) (N := some 63) (v := ?_) (a' := ?_) #[true, false, true, false, false, true, false, true, false, false, false, false] rfl rfl (any_of HT_.out (by kernel_rfl)) (fun _ _ _ h => h) (Or.inl ⟨by rfl, ?_⟩) ?_ ?_
                          rotate_left
                          · intro w'
                            go_simp
                            with_reducible rfl
                          rotate_left
                          · simp only [Act.put, List.setIfInBounds_toArray, List.set_cons_zero, List.set_cons_succ, i64_w, i32_w]
                            rfl
                          refine take_ (i := 1) (N := some 57) (v := ?_) (a' := ?_) #[true, true, true, false, false, true, false, true, false, false, false, false] rfl rfl (take_ofW HT_.out HW_.out (by kernel_rfl)) (fun _ _ _ h => h) (Or.inl ⟨by rfl, ?_⟩) hHeld ?_ ?_
                          rotate_left
                          · rintro w' ⟨s0, s1, s2, s3, s4, s5, s6, s7, s8, s9, s10, s11, s12, s13, s14, s15, s16, s17⟩
                            go_simp
                            with_reducible rfl
                          rotate_left
                          · simp only [Act.put, List.setIfInBounds_toArray, List.set_cons_zero, List.set_cons_succ, i64_w, i32_w]
                            rfl
                          refine pure_ (i := 3) (N := some 59) (v := ?_) (a' := ?_) #[true, true, true, true, false, true, false, true, false, false, false, false] rfl rfl (any_of HT_.out (by kernel_rfl)) (fun _ _ _ h => h) (Or.inl ⟨by rfl, ?_⟩) ?_ ?_
                          rotate_left
                          · intro w'
                            go_simp
                            with_reducible rfl
                          rotate_left
                          · simp only [Act.put, List.setIfInBounds_toArray, List.set_cons_zero, List.set_cons_succ, i64_w, i32_w]
                            rfl
                          refine take_ (i := 4) (N := some 60) (v := ?_) (a' := ?_) #[true, true, true, true, true, true, false, true, false, false, false, false] rfl rfl (take_ofW HT_.out HW_.out (by kernel_rfl)) (fun _ _ _ h => h) (Or.inl ⟨by rfl, ?_⟩) hHeld ?_ ?_
                          rotate_left
                          · rintro w' ⟨s0, s1, s2, s3, s4, s5, s6, s7, s8, s9, s10, s11, s12, s13, s14, s15, s16, s17⟩
                            go_simp
                            with_reducible rfl
                          rotate_left
                          · simp only [Act.put, List.setIfInBounds_toArray, List.set_cons_zero, List.set_cons_succ, i64_w, i32_w]
                            rfl
                          refine take_ (i := 6) (N := some 62) (v := ?_) (a' := ?_) #[true, true, true, true, true, true, true, true, false, false, false, false] rfl rfl (take_ofW HT_.out HW_.out (by kernel_rfl)) (fun _ _ _ h => h) (Or.inl ⟨by rfl, ?_⟩) hHeld ?_ ?_
                          rotate_left
                          · rintro w' ⟨s0, s1, s2, s3, s4, s5, s6, s7, s8, s9, s10, s11, s12, s13, s14, s15, s16, s17⟩
                            go_simp
                            with_reducible rfl
                          rotate_left
                          · simp only [Act.put, List.setIfInBounds_toArray, List.set_cons_zero, List.set_cons_succ, i64_w, i32_w]
                            rfl
                          refine pure_ (i := 8) (N := some 64) (v := ?_) (a' := ?_) #[true, true, true, true, true, true, true, true, true, false, false, false] rfl rfl (any_of HT_.out (by kernel_rfl)) (fun _ _ _ h => h) (Or.inl ⟨by rfl, ?_⟩) ?_ ?_
                          rotate_left
                          · intro w'
                            go_simp
                            with_reducible rfl
                          rotate_left
                          · simp only [Act.put, List.setIfInBounds_toArray, List.set_cons_zero, List.set_cons_succ, i64_w, i32_w]
                            rfl
                          refine take_ (i := 9) (N := some 65) (v := ?_) (a' := ?_) #[true, true, true, true, true, true, true, true, true, true, false, false] rfl rfl (take_ofW HT_.out HW_.out (by kernel_rfl)) (fun _ _ _ h => h) (Or.inl ⟨by rfl, ?_⟩) hHeld ?_ ?_
                          rotate_left
                          · rintro w' ⟨s0, s1, s2, s3, s4, s5, s6, s7, s8, s9, s10, s11, s12, s13, s14, s15, s16, s17⟩
                            go_simp
                            with_reducible rfl
                          rotate_left
                          · simp only [Act.put, List.setIfInBounds_toArray, List.set_cons_zero, List.set_cons_succ, i64_w, i32_w]
                            rfl
                          refine one_ (i := 10) (N := some 66) #[true, true, true, true, true, true, true, true, true, true, true, false] rfl rfl (one_of HT_.out (by kernel_rfl)) (by decide) (fun K hK => ?_)
                          refine goes_ Try.func20 (by kernel_rfl) rfl #[.agg #[.int .i64 ((rd_T41 l0_1 x6_3).f0), .int .i64 ((rd_T41 l0_1 x6_3).f1), .int .i64 ((rd_T41 l0_1 x6_3).f2), .slice A125_3 ((rd_T41 l0_1 x6_3).f3).length c125_3, .slice A125_4 ((rd_T41 l0_1 x6_3).f4).length c125_4, .int .i64 ((rd_T41 l0_1 x6_3).f5)], .agg #[.int .i64 ((rd_T41 l1_1 x6_3).f0), .int .i64 ((rd_T41 l1_1 x6_3).f1), .int .i64 ((rd_T41 l1_1 x6_3).f2), .slice A126_3 ((rd_T41 l1_1 x6_3).f3).length c126_3, .slice A126_4 ((rd_T41 l1_1 x6_3).f4).length c126_4, .int .i64 ((rd_T41 l1_1 x6_3).f5)]] (by rfl) rfl rfl (by (try simp only [List.map_toArray, List.map_cons, List.map_nil]); first | done | rfl | (simp only [List.length_drop, List.length_take]; rfl)) ?_
                          with_reducible refine (tidemillref11_TaskSame.calls k3 ((rd_T41 l0_1 x6_3).f0) ((rd_T41 l0_1 x6_3).f1) ((rd_T41 l0_1 x6_3).f2) _ _ ((rd_T41 l0_1 x6_3).f3) _ _ ((rd_T41 l0_1 x6_3).f4) ((rd_T41 l0_1 x6_3).f5) ((rd_T41 l1_1 x6_3).f0) ((rd_T41 l1_1 x6_3).f1) ((rd_T41 l1_1 x6_3).f2) _ _ ((rd_T41 l1_1 x6_3).f3) _ _ ((rd_T41 l1_1 x6_3).f4) ((rd_T41 l1_1 x6_3).f5) true _ ?side1 ?side2 ?side3 ?side4 ?side5 ?side6 ?side7 ?side8 A36.out).mono ?_
                          (case side1 => repeat (first | exact (Kd.C_below HR125_3.out HB.out) | (with_reducible refine Kd.C_alloc ?_ _) | (with_reducible refine Kd.C_drewN ?_ _) | (with_reducible refine Kd.C_drew ?_)))
                          (case side2 => exact HC125_3.out)
                          (case side3 => repeat (first | exact (Kd.C_below HR125_4.out HB.out) | (with_reducible refine Kd.C_alloc ?_ _) | (with_reducible refine Kd.C_drewN ?_ _) | (with_reducible refine Kd.C_drew ?_)))
                          (case side4 => exact HC125_4.out)
                          (case side5 => repeat (first | exact (Kd.C_below HR126_3.out HB.out) | (with_reducible refine Kd.C_alloc ?_ _) | (with_reducible refine Kd.C_drewN ?_ _) | (with_reducible refine Kd.C_drew ?_)))
                          (case side6 => exact HC126_3.out)
                          (case side7 => repeat (first | exact (Kd.C_below HR126_4.out HB.out) | (with_reducible refine Kd.C_alloc ?_ _) | (with_reducible refine Kd.C_drewN ?_ _) | (with_reducible refine Kd.C_drew ?_)))
                          (case side8 => exact HC126_4.out)
                          rintro e w41 ⟨rfl, hb⟩
                          refine ⟨_, rfl, ?_⟩
                          have n0_ := Aside0.mk (blk_below (g := gb120) (o := .cells #[.slice A0_0 l0_0.length c0_0, .slice (some ad125) l0_1.length c0_1, .int .i64 a0_2] 29 (0, 0)) (by (with_reducible repeat (first | refine blk_drewN ?_ _ | refine blk_drew ?_ | refine blk_alloc ?_ _)); exact BK120.out) hb)
                          have n1_ := Aside0.mk (blk_below (g := gb121) (o := .cells #[.slice A1_0 l1_0.length c1_0, .slice (some ad126) l1_1.length c1_1, .int .i64 a1_2] 29 (0, 0)) (by (with_reducible repeat (first | refine blk_drewN ?_ _ | refine blk_drew ?_ | refine blk_alloc ?_ _)); exact BK121.out) hb)
                          have n2_ := Aside0.mk (below_step (by repeat (first | (with_reducible first | exact HB.out | apply below_alloc | apply pw_below_drewN | apply below_drew1 | refine below_set ?_ GE120.out | refine below_set ?_ GE121.out) | exact HB.out)) hb)
                          clear BK120
                          clear BK121
                          clear HB
                          have BK120 := n0_
                          have BK121 := n1_
                          have HB := n2_
                          clear n0_ n1_ n2_
                          (try clear hb)
                          (try clear hb2)
                          (try clear hk)
                          (try clear hi)
                          refine hK.out _ _ ⟨(blk_cell BK120.out 0).trans rfl, (blk_cell BK120.out 1).trans rfl, (blk_cell BK120.out 2).trans rfl, (blk_cell BK121.out 0).trans rfl, (blk_cell BK121.out 1).trans rfl, (blk_cell BK121.out 2).trans rfl, ((HB.out.cell (World.block_lt_of_cell? w _ hw125_0)).trans hw125_0), ((HB.out.cell (World.block_lt_of_cell? w _ hw125_1)).trans hw125_1), ((HB.out.cell (World.block_lt_of_cell? w _ hw125_2)).trans hw125_2), ((HB.out.cell (World.block_lt_of_cell? w _ hw125_3)).trans hw125_3), ((HB.out.cell (World.block_lt_of_cell? w _ hw125_4)).trans hw125_4), ((HB.out.cell (World.block_lt_of_cell? w _ hw125_5)).trans hw125_5), ((HB.out.cell (World.block_lt_of_cell? w _ hw126_0)).trans hw126_0), ((HB.out.cell (World.block_lt_of_cell? w _ hw126_1)).trans hw126_1), ((HB.out.cell (World.block_lt_of_cell? w _ hw126_2)).trans hw126_2), ((HB.out.cell (World.block_lt_of_cell? w _ hw126_3)).trans hw126_3), ((HB.out.cell (World.block_lt_of_cell? w _ hw126_4)).trans hw126_4), ((HB.out.cell (World.block_lt_of_cell? w _ hw126_5)).trans hw126_5)⟩ (fun hHeld => ?_)
                          clear hK K
                          refine norm_ (a' := ?_) ?_ ?_
                          rotate_left
                          · show Act.put _ (some 66) _ = _
                            simp only [Act.put, List.setIfInBounds_toArray, List.set_cons_zero, List.set_cons_succ, i64_w, i32_w]
                            rfl
                          refine pure_ (i := 11) (N := some 67) (v := ?_) (a' := ?_) #[true, true, true, true, true, true, true, true, true, true, true, true] rfl rfl (any_of HT_.out (by kernel_rfl)) (fun _ _ _ h => h) (Or.inl ⟨by rfl, ?_⟩) ?_ ?_
                          rotate_left
                          · intro w'
                            go_simp
                            with_reducible rfl
                          rotate_left
                          · simp only [Act.put, List.setIfInBounds_toArray, List.set_cons_zero, List.set_cons_succ, i64_w, i32_w]
                            rfl
                          refine done_ (done_of HT_.out (by kernel_rfl)) ?_
                          try go_wp2
                          go_roundg k3
                          case measure => have := HJ2.out; have := HK2.out; have := HK3.out; omega
                          case rel => exact ⟨(wrap64 (x6_3 + 1)), (by first | rfl | (simp; done) | (simp [*]; done)), H', ⟨by have := HJ2.out; have := HK2.out; have := HK3.out; omega⟩, ⟨by (with_reducible repeat (first | refine blk_drewN ?_ _ | refine blk_drew ?_ | refine blk_alloc ?_ _)); exact BK120.out⟩, ⟨by (with_reducible repeat (first | refine blk_drewN ?_ _ | refine blk_drew ?_ | refine blk_alloc ?_ _)); exact BK121.out⟩, ⟨by repeat (first | (with_reducible first | exact HB.out | apply below_alloc | apply pw_below_drewN | apply below_drew1 | refine below_set ?_ GE120.out | refine below_set ?_ GE121.out) | exact HB.out)⟩⟩
                        · replace c37 := Bool.eq_false_iff.mpr c37
                          subst c37
                          have H1 : (some false) = some r := by rw [if_neg (show ¬ (false = true) by decide)] at H; exact H
                          clear H
                          have H := H1
                          clear H1
                          obtain rfl := Option.some.inj H
                          have hnb42 := NB120_121.out
                          have hnc42 := NB121_120.out
                          have hcz43_0 : wr.cell? ⟨gb120, 0, none⟩ = some (.slice A0_0 l0_0.length c0_0) := (blk_cell BK120.out 0).trans rfl
                          have hcz43_1 : wr.cell? ⟨gb120, 1, none⟩ = some (.slice A0_1 l0_1.length c0_1) := (blk_cell BK120.out 1).trans rfl
                          have hcz43_2 : wr.cell? ⟨gb120, 2, none⟩ = some (.int .i64 a0_2) := (blk_cell BK120.out 2).trans rfl
                          have hfz43_0 := blk_frozen BK120.out 0
                          have hfz43_1 := blk_frozen BK120.out 1
                          have hfz43_2 := blk_frozen BK120.out 2
                          try go_wp2
                          have n0_ := Aside0.mk (blk_drew BK120.out)
                          have n1_ := Aside0.mk (blk_drew BK121.out)
                          have n2_ := Aside0.mk (below_drew1 HB.out)
                          clear BK120
                          clear BK121
                          clear HB
                          have BK120 := n0_
                          have BK121 := n1_
                          have HB := n2_
                          clear n0_ n1_ n2_
                          have p125 : 0 ≤ (x6_3 : Int) := of_decide_eq_true (by first | (with_reducible assumption) | assumption)
                          have q125 : x6_3 < (l0_1.length : Int) := of_decide_eq_true (by first | (with_reducible assumption) | assumption)
                          obtain ⟨ad125, A125_3, c125_3, A125_4, c125_4, e125, hx125_0, hx125_1, hx125_2, hx125_3, hx125_4, hx125_5, hl125_3, hi125_3, hl125_4, hi125_4⟩ := at_T41 HR0_1.out x6_3 p125 q125
                          have hw125_5 := hx125_5
                          have hw125_4 := hx125_4
                          have hw125_3 := hx125_3
                          have hw125_2 := hx125_2
                          have hw125_1 := hx125_1
                          have hw125_0 := hx125_0
                          cases e125
                          replace hx125_0 := (HB.out.cell (World.block_lt_of_cell? w _ hx125_0)).trans hx125_0
                          replace hx125_1 := (HB.out.cell (World.block_lt_of_cell? w _ hx125_1)).trans hx125_1
                          replace hx125_2 := (HB.out.cell (World.block_lt_of_cell? w _ hx125_2)).trans hx125_2
                          replace hx125_3 := (HB.out.cell (World.block_lt_of_cell? w _ hx125_3)).trans hx125_3
                          replace hx125_4 := (HB.out.cell (World.block_lt_of_cell? w _ hx125_4)).trans hx125_4
                          replace hx125_5 := (HB.out.cell (World.block_lt_of_cell? w _ hx125_5)).trans hx125_5
                          have HR125_3 := Aside0.mk hi125_3
                          have HC125_3 := Aside0.mk hl125_3
                          clear hi125_3 hl125_3
                          have HR125_4 := Aside0.mk hi125_4
                          have HC125_4 := Aside0.mk hl125_4
                          clear hi125_4 hl125_4
                          replace p125 := eq_true p125
                          replace q125 := eq_true q125
                          have p126 : 0 ≤ (x6_3 : Int) := of_decide_eq_true (by first | (with_reducible assumption) | assumption)
                          have q126 : x6_3 < (l1_1.length : Int) := of_decide_eq_true (by first | (with_reducible assumption) | assumption)
                          obtain ⟨ad126, A126_3, c126_3, A126_4, c126_4, e126, hx126_0, hx126_1, hx126_2, hx126_3, hx126_4, hx126_5, hl126_3, hi126_3, hl126_4, hi126_4⟩ := at_T41 HR1_1.out x6_3 p126 q126
                          have hw126_5 := hx126_5
                          have hw126_4 := hx126_4
                          have hw126_3 := hx126_3
                          have hw126_2 := hx126_2
                          have hw126_1 := hx126_1
                          have hw126_0 := hx126_0
                          cases e126
                          replace hx126_0 := (HB.out.cell (World.block_lt_of_cell? w _ hx126_0)).trans hx126_0
                          replace hx126_1 := (HB.out.cell (World.block_lt_of_cell? w _ hx126_1)).trans hx126_1
                          replace hx126_2 := (HB.out.cell (World.block_lt_of_cell? w _ hx126_2)).trans hx126_2
                          replace hx126_3 := (HB.out.cell (World.block_lt_of_cell? w _ hx126_3)).trans hx126_3
                          replace hx126_4 := (HB.out.cell (World.block_lt_of_cell? w _ hx126_4)).trans hx126_4
                          replace hx126_5 := (HB.out.cell (World.block_lt_of_cell? w _ hx126_5)).trans hx126_5
                          have HR126_3 := Aside0.mk hi126_3
                          have HC126_3 := Aside0.mk hl126_3
                          clear hi126_3 hl126_3
                          have HR126_4 := Aside0.mk hi126_4
                          have HC126_4 := Aside0.mk hl126_4
                          clear hi126_4 hl126_4
                          replace p126 := eq_true p126
                          replace q126 := eq_true q126
                          refine start_ (n := 12) (S := fun w' => w'.cell? ⟨gb120, 0, none⟩ = some (.slice A0_0 l0_0.length c0_0) ∧ w'.cell? ⟨gb120, 1, none⟩ = some (.slice (some ad125) l0_1.length c0_1) ∧ w'.cell? ⟨gb120, 2, none⟩ = some (.int .i64 a0_2) ∧ w'.cell? ⟨gb121, 0, none⟩ = some (.slice A1_0 l1_0.length c1_0) ∧ w'.cell? ⟨gb121, 1, none⟩ = some (.slice (some ad126) l1_1.length c1_1) ∧ w'.cell? ⟨gb121, 2, none⟩ = some (.int .i64 a1_2) ∧ w'.cell? (ad125.add ((x6_3).toNat * 6)) = some (.int .i64 ((rd_T41 l0_1 x6_3).f0)) ∧ w'.cell? ⟨(ad125.add ((x6_3).toNat * 6)).block, (ad125.add ((x6_3).toNat * 6)).off + 1, none⟩ = some (.int .i64 ((rd_T41 l0_1 x6_3).f1)) ∧ w'.cell? ⟨(ad125.add ((x6_3).toNat * 6)).block, (ad125.add ((x6_3).toNat * 6)).off + 2, none⟩ = some (.int .i64 ((rd_T41 l0_1 x6_3).f2)) ∧ w'.cell? ⟨(ad125.add ((x6_3).toNat * 6)).block, (ad125.add ((x6_3).toNat * 6)).off + 3, none⟩ = some (.slice A125_3 ((rd_T41 l0_1 x6_3).f3).length c125_3) ∧ w'.cell? ⟨(ad125.add ((x6_3).toNat * 6)).block, (ad125.add ((x6_3).toNat * 6)).off + 4, none⟩ = some (.slice A125_4 ((rd_T41 l0_1 x6_3).f4).length c125_4) ∧ w'.cell? ⟨(ad125.add ((x6_3).toNat * 6)).block, (ad125.add ((x6_3).toNat * 6)).off + 5, none⟩ = some (.int .i64 ((rd_T41 l0_1 x6_3).f5)) ∧ w'.cell? (ad126.add ((x6_3).toNat * 6)) = some (.int .i64 ((rd_T41 l1_1 x6_3).f0)) ∧ w'.cell? ⟨(ad126.add ((x6_3).toNat * 6)).block, (ad126.add ((x6_3).toNat * 6)).off + 1, none⟩ = some (.int .i64 ((rd_T41 l1_1 x6_3).f1)) ∧ w'.cell? ⟨(ad126.add ((x6_3).toNat * 6)).block, (ad126.add ((x6_3).toNat * 6)).off + 2, none⟩ = some (.int .i64 ((rd_T41 l1_1 x6_3).f2)) ∧ w'.cell? ⟨(ad126.add ((x6_3).toNat * 6)).block, (ad126.add ((x6_3).toNat * 6)).off + 3, none⟩ = some (.slice A126_3 ((rd_T41 l1_1 x6_3).f3).length c126_3) ∧ w'.cell? ⟨(ad126.add ((x6_3).toNat * 6)).block, (ad126.add ((x6_3).toNat * 6)).off + 4, none⟩ = some (.slice A126_4 ((rd_T41 l1_1 x6_3).f4).length c126_4) ∧ w'.cell? ⟨(ad126.add ((x6_3).toNat * 6)).block, (ad126.add ((x6_3).toNat * 6)).off + 5, none⟩ = some (.int .i64 ((rd_T41 l1_1 x6_3).f5))) (ds := []) #[false, false, false, false, false, false, false, false, false, false, false, false] (by kernel_rfl) rfl rfl ⟨(blk_cell BK120.out 0).trans rfl, (blk_cell BK120.out 1).trans rfl, (blk_cell BK120.out 2).trans rfl, (blk_cell BK121.out 0).trans rfl, (blk_cell BK121.out 1).trans rfl, (blk_cell BK121.out 2).trans rfl, ((HB.out.cell (World.block_lt_of_cell? w _ hw125_0)).trans hw125_0), ((HB.out.cell (World.block_lt_of_cell? w _ hw125_1)).trans hw125_1), ((HB.out.cell (World.block_lt_of_cell? w _ hw125_2)).trans hw125_2), ((HB.out.cell (World.block_lt_of_cell? w _ hw125_3)).trans hw125_3), ((HB.out.cell (World.block_lt_of_cell? w _ hw125_4)).trans hw125_4), ((HB.out.cell (World.block_lt_of_cell? w _ hw125_5)).trans hw125_5), ((HB.out.cell (World.block_lt_of_cell? w _ hw126_0)).trans hw126_0), ((HB.out.cell (World.block_lt_of_cell? w _ hw126_1)).trans hw126_1), ((HB.out.cell (World.block_lt_of_cell? w _ hw126_2)).trans hw126_2), ((HB.out.cell (World.block_lt_of_cell? w _ hw126_3)).trans hw126_3), ((HB.out.cell (World.block_lt_of_cell? w _ hw126_4)).trans hw126_4), ((HB.out.cell (World.block_lt_of_cell? w _ hw126_5)).trans hw126_5)⟩ (fun hHeld => ?_); refine with_tabW tidemillref11_Same.tab11 tidemillref11_Same.bits11 (fun HT_ HW_ => ?_)
                          generalize wr.drew = w44 at BK120 BK121 HB HR125_3 HR125_4 HR126_3 HR126_4 hx125_0 hx125_1 hx125_2 hx125_3 hx125_4 hx125_5 hx126_0 hx126_1 hx126_2 hx126_3 hx126_4 hx126_5 hHeld ⊢
                          refine pure_ (i := 0) (N := some 56) (v := ?_) (a' := ?_) #[true, false, false, false, false, false, false, false, false, false, false, false] rfl rfl (any_of HT_.out (by kernel_rfl)) (fun _ _ _ h => h) (Or.inl ⟨by rfl, ?_⟩) ?_ ?_
                          rotate_left
                          · intro w'
                            go_simp
                            with_reducible rfl
                          rotate_left
                          · simp only [Act.put, List.setIfInBounds_toArray, List.set_cons_zero, List.set_cons_succ, i64_w, i32_w]
                            rfl
                          refine pure_ (i := 2) (N := some 58) (v := ?_) (a' := ?_) #[true, false, true, false, false, false, false, false, false, false, false, false] rfl rfl (any_of HT_.out (by kernel_rfl)) (fun _ _ _ h => h) (Or.inl ⟨by rfl, ?_⟩) ?_ ?_
                          rotate_left
                          · intro w'
                            go_simp
                            with_reducible rfl
                          rotate_left
                          · simp only [Act.put, List.setIfInBounds_toArray, List.set_cons_zero, List.set_cons_succ, i64_w, i32_w]
                            rfl
                          refine pure_ (i := 5) (N := some 61) (v := ?_) (a' := ?_) #[true, false, true, false, false, true, false, false, false, false, false, false] rfl rfl (any_of HT_.out (by kernel_rfl)) (fun _ _ _ h => h) (Or.inl ⟨by rfl, ?_⟩) ?_ ?_
                          rotate_left
                          · intro w'
                            go_simp
                            with_reducible rfl
                          rotate_left
                          · simp only [Act.put, List.setIfInBounds_toArray, List.set_cons_zero, List.set_cons_succ, i64_w, i32_w]
                            rfl
                          refine pure_ (i := 7) (N := some 63) (v := ?_) (a' := ?_) #[true, false, true, false, false, true, false, true, false, false, false, false] rfl rfl (any_of HT_.out (by kernel_rfl)) (fun _ _ _ h => h) (Or.inl ⟨by rfl, ?_⟩) ?_ ?_
                          rotate_left
                          · intro w'
                            go_simp
                            with_reducible rfl
                          rotate_left
                          · simp only [Act.put, List.setIfInBounds_toArray, List.set_cons_zero, List.set_cons_succ, i64_w, i32_w]
                            rfl
                          refine take_ (i := 1) (N := some 57) (v := ?_) (a' := ?_) #[true, true, true, false, false, true, false, true, false, false, false, false] rfl rfl (take_ofW HT_.out HW_.out (by kernel_rfl)) (fun _ _ _ h => h) (Or.inl ⟨by rfl, ?_⟩) hHeld ?_ ?_
                          rotate_left
                          · rintro w' ⟨s0, s1, s2, s3, s4, s5, s6, s7, s8, s9, s10, s11, s12, s13, s14, s15, s16, s17⟩
                            go_simp
                            with_reducible rfl
                          rotate_left
                          · simp only [Act.put, List.setIfInBounds_toArray, List.set_cons_zero, List.set_cons_succ, i64_w, i32_w]
                            rfl
                          refine pure_ (i := 3) (N := some 59) (v := ?_) (a' := ?_) #[true, true, true, true, false, true, false, true, false, false, false, false] rfl rfl (any_of HT_.out (by kernel_rfl)) (fun _ _ _ h => h) (Or.inl ⟨by rfl, ?_⟩) ?_ ?_
                          rotate_left
                          · intro w'
                            go_simp
                            with_reducible rfl
                          rotate_left
                          · simp only [Act.put, List.setIfInBounds_toArray, List.set_cons_zero, List.set_cons_succ, i64_w, i32_w]
                            rfl
                          refine take_ (i := 4) (N := some 60) (v := ?_) (a' := ?_) #[true, true, true, true, true, true, false, true, false, false, false, false] rfl rfl (take_ofW HT_.out HW_.out (by kernel_rfl)) (fun _ _ _ h => h) (Or.inl ⟨by rfl, ?_⟩) hHeld ?_ ?_
                          rotate_left
                          · rintro w' ⟨s0, s1, s2, s3, s4, s5, s6, s7, s8, s9, s10, s11, s12, s13, s14, s15, s16, s17⟩
                            go_simp
                            with_reducible rfl
                          rotate_left
                          · simp only [Act.put, List.setIfInBounds_toArray, List.set_cons_zero, List.set_cons_succ, i64_w, i32_w]
                            rfl
                          refine take_ (i := 6) (N := some 62) (v := ?_) (a' := ?_) #[true, true, true, true, true, true, true, true, false, false, false, false] rfl rfl (take_ofW HT_.out HW_.out (by kernel_rfl)) (fun _ _ _ h => h) (Or.inl ⟨by rfl, ?_⟩) hHeld ?_ ?_
                          rotate_left
                          · rintro w' ⟨s0, s1, s2, s3, s4, s5, s6, s7, s8, s9, s10, s11, s12, s13, s14, s15, s16, s17⟩
                            go_simp
                            with_reducible rfl
                          rotate_left
                          · simp only [Act.put, List.setIfInBounds_toArray, List.set_cons_zero, List.set_cons_succ, i64_w, i32_w]
                            rfl
                          refine pure_ (i := 8) (N := some 64) (v := ?_) (a' := ?_) #[true, true, true, true, true, true, true, true, true, false, false, false] rfl rfl (any_of HT_.out (by kernel_rfl)) (fun _ _ _ h => h) (Or.inl ⟨by rfl, ?_⟩) ?_ ?_
                          rotate_left
                          · intro w'
                            go_simp
                            with_reducible rfl
                          rotate_left
                          · simp only [Act.put, List.setIfInBounds_toArray, List.set_cons_zero, List.set_cons_succ, i64_w, i32_w]
                            rfl
                          refine take_ (i := 9) (N := some 65) (v := ?_) (a' := ?_) #[true, true, true, true, true, true, true, true, true, true, false, false] rfl rfl (take_ofW HT_.out HW_.out (by kernel_rfl)) (fun _ _ _ h => h) (Or.inl ⟨by rfl, ?_⟩) hHeld ?_ ?_
                          rotate_left
                          · rintro w' ⟨s0, s1, s2, s3, s4, s5, s6, s7, s8, s9, s10, s11, s12, s13, s14, s15, s16, s17⟩
                            go_simp
                            with_reducible rfl
                          rotate_left
                          · simp only [Act.put, List.setIfInBounds_toArray, List.set_cons_zero, List.set_cons_succ, i64_w, i32_w]
                            rfl
                          refine one_ (i := 10) (N := some 66) #[true, true, true, true, true, true, true, true, true, true, true, false] rfl rfl (one_of HT_.out (by kernel_rfl)) (by decide) (fun K hK => ?_)
                          refine goes_ Try.func20 (by kernel_rfl) rfl #[.agg #[.int .i64 ((rd_T41 l0_1 x6_3).f0), .int .i64 ((rd_T41 l0_1 x6_3).f1), .int .i64 ((rd_T41 l0_1 x6_3).f2), .slice A125_3 ((rd_T41 l0_1 x6_3).f3).length c125_3, .slice A125_4 ((rd_T41 l0_1 x6_3).f4).length c125_4, .int .i64 ((rd_T41 l0_1 x6_3).f5)], .agg #[.int .i64 ((rd_T41 l1_1 x6_3).f0), .int .i64 ((rd_T41 l1_1 x6_3).f1), .int .i64 ((rd_T41 l1_1 x6_3).f2), .slice A126_3 ((rd_T41 l1_1 x6_3).f3).length c126_3, .slice A126_4 ((rd_T41 l1_1 x6_3).f4).length c126_4, .int .i64 ((rd_T41 l1_1 x6_3).f5)]] (by rfl) rfl rfl (by (try simp only [List.map_toArray, List.map_cons, List.map_nil]); first | done | rfl | (simp only [List.length_drop, List.length_take]; rfl)) ?_
                          with_reducible refine (tidemillref11_TaskSame.calls k3 ((rd_T41 l0_1 x6_3).f0) ((rd_T41 l0_1 x6_3).f1) ((rd_T41 l0_1 x6_3).f2) _ _ ((rd_T41 l0_1 x6_3).f3) _ _ ((rd_T41 l0_1 x6_3).f4) ((rd_T41 l0_1 x6_3).f5) ((rd_T41 l1_1 x6_3).f0) ((rd_T41 l1_1 x6_3).f1) ((rd_T41 l1_1 x6_3).f2) _ _ ((rd_T41 l1_1 x6_3).f3) _ _ ((rd_T41 l1_1 x6_3).f4) ((rd_T41 l1_1 x6_3).f5) false _ ?side1 ?side2 ?side3 ?side4 ?side5 ?side6 ?side7 ?side8 A36.out).mono ?_
                          (case side1 => repeat (first | exact (Kd.C_below HR125_3.out HB.out) | (with_reducible refine Kd.C_alloc ?_ _) | (with_reducible refine Kd.C_drewN ?_ _) | (with_reducible refine Kd.C_drew ?_)))
                          (case side2 => exact HC125_3.out)
                          (case side3 => repeat (first | exact (Kd.C_below HR125_4.out HB.out) | (with_reducible refine Kd.C_alloc ?_ _) | (with_reducible refine Kd.C_drewN ?_ _) | (with_reducible refine Kd.C_drew ?_)))
                          (case side4 => exact HC125_4.out)
                          (case side5 => repeat (first | exact (Kd.C_below HR126_3.out HB.out) | (with_reducible refine Kd.C_alloc ?_ _) | (with_reducible refine Kd.C_drewN ?_ _) | (with_reducible refine Kd.C_drew ?_)))
                          (case side6 => exact HC126_3.out)
                          (case side7 => repeat (first | exact (Kd.C_below HR126_4.out HB.out) | (with_reducible refine Kd.C_alloc ?_ _) | (with_reducible refine Kd.C_drewN ?_ _) | (with_reducible refine Kd.C_drew ?_)))
                          (case side8 => exact HC126_4.out)
                          rintro e w45 ⟨rfl, hb⟩
                          refine ⟨_, rfl, ?_⟩
                          have n0_ := Aside0.mk (blk_below (g := gb120) (o := .cells #[.slice A0_0 l0_0.length c0_0, .slice (some ad125) l0_1.length c0_1, .int .i64 a0_2] 29 (0, 0)) (by (with_reducible repeat (first | refine blk_drewN ?_ _ | refine blk_drew ?_ | refine blk_alloc ?_ _)); exact BK120.out) hb)
                          have n1_ := Aside0.mk (blk_below (g := gb121) (o := .cells #[.slice A1_0 l1_0.length c1_0, .slice (some ad126) l1_1.length c1_1, .int .i64 a1_2] 29 (0, 0)) (by (with_reducible repeat (first | refine blk_drewN ?_ _ | refine blk_drew ?_ | refine blk_alloc ?_ _)); exact BK121.out) hb)
                          have n2_ := Aside0.mk (below_step (by repeat (first | (with_reducible first | exact HB.out | apply below_alloc | apply pw_below_drewN | apply below_drew1 | refine below_set ?_ GE120.out | refine below_set ?_ GE121.out) | exact HB.out)) hb)
                          clear BK120
                          clear BK121
                          clear HB
                          have BK120 := n0_
                          have BK121 := n1_
                          have HB := n2_
                          clear n0_ n1_ n2_
                          (try clear hb)
                          (try clear hb2)
                          (try clear hk)
                          (try clear hi)
                          refine hK.out _ _ ⟨(blk_cell BK120.out 0).trans rfl, (blk_cell BK120.out 1).trans rfl, (blk_cell BK120.out 2).trans rfl, (blk_cell BK121.out 0).trans rfl, (blk_cell BK121.out 1).trans rfl, (blk_cell BK121.out 2).trans rfl, ((HB.out.cell (World.block_lt_of_cell? w _ hw125_0)).trans hw125_0), ((HB.out.cell (World.block_lt_of_cell? w _ hw125_1)).trans hw125_1), ((HB.out.cell (World.block_lt_of_cell? w _ hw125_2)).trans hw125_2), ((HB.out.cell (World.block_lt_of_cell? w _ hw125_3)).trans hw125_3), ((HB.out.cell (World.block_lt_of_cell? w _ hw125_4)).trans hw125_4), ((HB.out.cell (World.block_lt_of_cell? w _ hw125_5)).trans hw125_5), ((HB.out.cell (World.block_lt_of_cell? w _ hw126_0)).trans hw126_0), ((HB.out.cell (World.block_lt_of_cell? w _ hw126_1)).trans hw126_1), ((HB.out.cell (World.block_lt_of_cell? w _ hw126_2)).trans hw126_2), ((HB.out.cell (World.block_lt_of_cell? w _ hw126_3)).trans hw126_3), ((HB.out.cell (World.block_lt_of_cell? w _ hw126_4)).trans hw126_4), ((HB.out.cell (World.block_lt_of_cell? w _ hw126_5)).trans hw126_5)⟩ (fun hHeld => ?_)
                          clear hK K
                          refine norm_ (a' := ?_) ?_ ?_
                          rotate_left
                          · show Act.put _ (some 66) _ = _
                            simp only [Act.put, List.setIfInBounds_toArray, List.set_cons_zero, List.set_cons_succ, i64_w, i32_w]
                            rfl
                          refine pure_ (i := 11) (N := some 67) (v := ?_) (a' := ?_) #[true, true, true, true, true, true, true, true, true, true, true, true] rfl rfl (any_of HT_.out (by kernel_rfl)) (fun _ _ _ h => h) (Or.inl ⟨by rfl, ?_⟩) ?_ ?_
                          rotate_left
                          · intro w'
                            go_simp
                            with_reducible rfl
                          rotate_left
                          · simp only [Act.put, List.setIfInBounds_toArray, List.set_cons_zero, List.set_cons_succ, i64_w, i32_w]
                            rfl
                          refine done_ (done_of HT_.out (by kernel_rfl)) ?_
                          try go_wp2
                          go_ret
                          exact ⟨by first | rfl | (simp [errW_none, errW_some] <;> rfl) | (simp [*, errW_none, errW_some] <;> rfl), by repeat (first | (with_reducible first | exact HB.out | apply below_alloc | apply pw_below_drewN | apply below_drew1 | refine below_set ?_ GE120.out | refine below_set ?_ GE121.out) | exact HB.out)⟩
                      · rw [if_neg c35] at H
                        exact absurd H (by simp)
                    · rw [if_neg c34] at H
                      exact absurd H (by simp)
                  · rw [if_neg c33] at H
                    have c33b0 : decide (x6_3 < (l0_1.length : Int)) = false := decide_eq_false c33
                    clear c33
                    obtain rfl := Option.some.inj H
                    have hnb46 := NB120_121.out
                    have hnc46 := NB121_120.out
                    have hcz47_0 : wr.cell? ⟨gb120, 0, none⟩ = some (.slice A0_0 l0_0.length c0_0) := (blk_cell BK120.out 0).trans rfl
                    have hcz47_1 : wr.cell? ⟨gb120, 1, none⟩ = some (.slice A0_1 l0_1.length c0_1) := (blk_cell BK120.out 1).trans rfl
                    have hcz47_2 : wr.cell? ⟨gb120, 2, none⟩ = some (.int .i64 a0_2) := (blk_cell BK120.out 2).trans rfl
                    have hfz47_0 := blk_frozen BK120.out 0
                    have hfz47_1 := blk_frozen BK120.out 1
                    have hfz47_2 := blk_frozen BK120.out 2
                    go_wp2
                    go_ret
                    exact ⟨by first | rfl | (simp [errW_none, errW_some] <;> rfl) | (simp [*, errW_none, errW_some] <;> rfl), by repeat (first | (with_reducible first | exact HB.out | apply below_alloc | apply pw_below_drewN | apply below_drew1 | refine below_set ?_ GE120.out | refine below_set ?_ GE121.out) | exact HB.out)⟩

end Go.Proofs.Ytmnglonjekegcaa.Rp
