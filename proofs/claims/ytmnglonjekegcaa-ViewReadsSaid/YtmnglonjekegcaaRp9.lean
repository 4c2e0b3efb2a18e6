import Derived.Test.YtmnglonjekegcaaRp0
import Derived.Test.YtmnglonjekegcaaWWords
import Derived.Test.YtmnglonjekegcaaRp1
import Derived.Test.YtmnglonjekegcaaRp8
namespace Go.Proofs.Ytmnglonjekegcaa.Rp
open Go.RowKit Go.Proofs.YtmnglonjekegcaaW.PrintWords Go.Proofs.YtmnglonjekegcaaW.PrintLast Go.Proofs.YtmnglonjekegcaaW.PrintMore
attribute [local go_sem] max2_int min2_int max_two min_two max_three min_three max_four min_four   -- for this text's walks alone
set_option linter.unusedVariables false
set_option linter.unusedSimpArgs false

attribute [local go_sem high] eqA45
def tidemillref03_May.j0 : Nat → Bool → Int → Int → Int → Int → Int → Int → Int → Int → Bool → List Int → List Int → Option (Bool)
  | 0, _, _, _, _, _, _, _, _, _, _, _, _ => none
  | k + 1, x71, x151000, x151001, x151002, x151003, x151004, x151005, x151006, x151007, x151008, x151009, x151010 => if x71 = true then (some false) else (if x151000 = 2 then (if x151000 = 3 then (some true) else (if (x151009.length : Int) = 0 then (some ((x151010.length : Int) == 0)) else (some false))) else (if x151000 = 3 then (if x151000 = 1 then (if x151008 = true then (some false) else (some true)) else (if x151004 = 0 then (if (!(x151005 == 0) || (!(x151006 == 0) || (!(x151007 == 0)))) = true then (some false) else (if x151008 = true then (some false) else (some true))) else (some false))) else (if x151000 = 4 then (if x151000 = 1 then (if x151008 = true then (some false) else (if (x151009.length : Int) = 0 then (some ((x151010.length : Int) == 0)) else (some false))) else (if x151004 = 0 then (if (!(x151005 == 0) || (!(x151006 == 0) || (!(x151007 == 0)))) = true then (some false) else (if x151008 = true then (some false) else (if (x151009.length : Int) = 0 then (some ((x151010.length : Int) == 0)) else (some false)))) else (some false))) else (if x151000 = 5 then (if x151003 = 0 then (if x151000 = 1 then (if x151008 = true then (some false) else (if (x151009.length : Int) = 0 then (some ((x151010.length : Int) == 0)) else (some false))) else (if x151004 = 0 then (if (!(x151005 == 0) || (!(x151006 == 0) || (!(x151007 == 0)))) = true then (some false) else (if x151008 = true then (some false) else (if (x151009.length : Int) = 0 then (some ((x151010.length : Int) == 0)) else (some false)))) else (some false))) else (some false)) else (if x151001 = 0 then (if x151002 = 0 then (if x151003 = 0 then (if x151000 = 1 then (if x151008 = true then (some false) else (if (x151009.length : Int) = 0 then (some ((x151010.length : Int) == 0)) else (some false))) else (if x151004 = 0 then (if (!(x151005 == 0) || (!(x151006 == 0) || (!(x151007 == 0)))) = true then (some false) else (if x151008 = true then (some false) else (if (x151009.length : Int) = 0 then (some ((x151010.length : Int) == 0)) else (some false)))) else (some false))) else (some false)) else (some false)) else (some false))))))
def tidemillref03_May.f (k : Nat) (a0_0 : Int) (a0_1 : Int) (a0_2 : Int) (a0_3 : Int) (a0_4 : Int) (a0_5 : Int) (a0_6 : Int) (a0_7 : Int) (a0_8 : Bool) (l0_9 : List Int) (l0_10 : List Int) : Option (Bool) := if a0_0 < 1 then (tidemillref03_May.j0 k true a0_0 a0_1 a0_2 a0_3 a0_4 a0_5 a0_6 a0_7 a0_8 l0_9 l0_10) else (if a0_0 > 6 then (tidemillref03_May.j0 k true a0_0 a0_1 a0_2 a0_3 a0_4 a0_5 a0_6 a0_7 a0_8 l0_9 l0_10) else ((tidemillref03_fits.f a0_1).bind fun t151 => (if t151 = true then ((tidemillref03_fits.f a0_2).bind fun t152 => (if t152 = true then ((tidemillref03_fits.f a0_3).bind fun t153 => (if t153 = true then ((tidemillref03_fits.f a0_4).bind fun t154 => (if t154 = true then ((tidemillref03_all.f k l0_9).bind fun t155 => (if t155 = true then ((tidemillref03_all.f k l0_10).bind fun t156 => (if t156 = true then ((tidemillref03_Time.f a0_7).bind fun t157 => (if t157 = true then (if (l0_9.length : Int) > 8 then (tidemillref03_May.j0 k true a0_0 a0_1 a0_2 a0_3 a0_4 a0_5 a0_6 a0_7 a0_8 l0_9 l0_10) else (tidemillref03_May.j0 k (decide ((l0_10.length : Int) > 256)) a0_0 a0_1 a0_2 a0_3 a0_4 a0_5 a0_6 a0_7 a0_8 l0_9 l0_10)) else (tidemillref03_May.j0 k true a0_0 a0_1 a0_2 a0_3 a0_4 a0_5 a0_6 a0_7 a0_8 l0_9 l0_10))) else (tidemillref03_May.j0 k true a0_0 a0_1 a0_2 a0_3 a0_4 a0_5 a0_6 a0_7 a0_8 l0_9 l0_10))) else (tidemillref03_May.j0 k true a0_0 a0_1 a0_2 a0_3 a0_4 a0_5 a0_6 a0_7 a0_8 l0_9 l0_10))) else (tidemillref03_May.j0 k true a0_0 a0_1 a0_2 a0_3 a0_4 a0_5 a0_6 a0_7 a0_8 l0_9 l0_10))) else (tidemillref03_May.j0 k true a0_0 a0_1 a0_2 a0_3 a0_4 a0_5 a0_6 a0_7 a0_8 l0_9 l0_10))) else (tidemillref03_May.j0 k true a0_0 a0_1 a0_2 a0_3 a0_4 a0_5 a0_6 a0_7 a0_8 l0_9 l0_10))) else (tidemillref03_May.j0 k true a0_0 a0_1 a0_2 a0_3 a0_4 a0_5 a0_6 a0_7 a0_8 l0_9 l0_10))))
theorem tidemillref03_May.mono_l : ∀ k, (∀ y0 y1 y2 y3 y4 y5 y6 y7 y8 y9 y10 y11, LeO (tidemillref03_May.j0 k y0 y1 y2 y3 y4 y5 y6 y7 y8 y9 y10 y11) (tidemillref03_May.j0 (k + 1) y0 y1 y2 y3 y4 y5 y6 y7 y8 y9 y10 y11))
  | 0 => fun _ _ _ _ _ _ _ _ _ _ _ _ r h => by simp [tidemillref03_May.j0] at h
  | k + 1 => by
    have ih0 := tidemillref03_May.mono_l k
    · intro y0 y1 y2 y3 y4 y5 y6 y7 y8 y9 y10 y11
      unfold tidemillref03_May.j0
      repeat' first
      | (with_reducible exact ih0 _ _ _ _ _ _ _ _ _ _ _ _)
      | (with_reducible exact tidemillref03_all.mono _ _)
      | (with_reducible exact LeO.refl _)
      | (with_reducible exact LeO.none _)
      | (with_reducible refine LeO.ite ?_ ?_)
      | (with_reducible refine LeO.bind ?_ (fun _ => ?_))
      | exact ih0 _ _ _ _ _ _ _ _ _ _ _ _
      | exact tidemillref03_all.mono _ _
      | exact LeO.none _
      | refine LeO.ite ?_ ?_
      | refine LeO.bind ?_ (fun _ => ?_)
theorem tidemillref03_May.mono : ∀ a0 a1 a2 a3 a4 a5 a6 a7 a8 a9 a10 k, LeO (tidemillref03_May.f k a0 a1 a2 a3 a4 a5 a6 a7 a8 a9 a10) (tidemillref03_May.f (k + 1) a0 a1 a2 a3 a4 a5 a6 a7 a8 a9 a10) := by
  intro a0 a1 a2 a3 a4 a5 a6 a7 a8 a9 a10 k
  have ih0 := tidemillref03_May.mono_l k
  unfold tidemillref03_May.f
  repeat' first
      | (with_reducible exact ih0 _ _ _ _ _ _ _ _ _ _ _ _)
      | (with_reducible exact tidemillref03_all.mono _ _)
      | (with_reducible exact LeO.refl _)
      | (with_reducible exact LeO.none _)
      | (with_reducible refine LeO.ite ?_ ?_)
      | (with_reducible refine LeO.bind ?_ (fun _ => ?_))
      | exact ih0 _ _ _ _ _ _ _ _ _ _ _ _
      | exact tidemillref03_all.mono _ _
      | exact LeO.none _
      | refine LeO.ite ?_ ?_
      | refine LeO.bind ?_ (fun _ => ?_)
set_option maxHeartbeats 8000000 in
set_option maxRecDepth 100000 in
theorem tidemillref03_May.calls (k : Nat) (a0_0 : Int) (a0_1 : Int) (a0_2 : Int) (a0_3 : Int) (a0_4 : Int) (a0_5 : Int) (a0_6 : Int) (a0_7 : Int) (a0_8 : Bool) (A0_9 : Option Addr) (c0_9 : Nat) (l0_9 : List Int) (A0_10 : Option Addr) (c0_10 : Nat) (l0_10 : List Int) (r : Bool) (w : World) (hr0_9 : Kd.C (Kd.int .i64) w A0_9 l0_9.length l0_9) (hc0_9 : l0_9.length ≤ c0_9) (hr0_10 : Kd.C (Kd.int .i64) w A0_10 l0_10.length l0_10) (hc0_10 : l0_10.length ≤ c0_10) (h : tidemillref03_May.f k a0_0 a0_1 a0_2 a0_3 a0_4 a0_5 a0_6 a0_7 a0_8 l0_9 l0_10 = some r) :
    Calls Try.prog 31 #[.agg #[.int .i64 a0_0, .int .i64 a0_1, .int .i64 a0_2, .int .i64 a0_3, .int .i64 a0_4, .int .i64 a0_5, .int .i64 a0_6, .int .i64 a0_7, .bool a0_8, .slice A0_9 l0_9.length c0_9, .slice A0_10 l0_10.length c0_10]] w fun e w' => e = .returned (.bool r) ∧ Below w.heap.size w w' := by
  have hu47 := Try.underlying47
  have hu45 := Try.underlying45
  have HR0_9 := Aside0.mk hr0_9
  have HC0_9 := Aside0.mk hc0_9
  clear hr0_9 hc0_9
  have HR0_10 := Aside0.mk hr0_10
  have HC0_10 := Aside0.mk hc0_10
  clear hr0_10 hc0_10
  have HB := Aside0.mk (Below.refl w.heap.size w)
  have H : (if a0_0 < 1 then (tidemillref03_May.j0 k true a0_0 a0_1 a0_2 a0_3 a0_4 a0_5 a0_6 a0_7 a0_8 l0_9 l0_10) else (if a0_0 > 6 then (tidemillref03_May.j0 k true a0_0 a0_1 a0_2 a0_3 a0_4 a0_5 a0_6 a0_7 a0_8 l0_9 l0_10) else ((tidemillref03_fits.f a0_1).bind fun t151 => (if t151 = true then ((tidemillref03_fits.f a0_2).bind fun t152 => (if t152 = true then ((tidemillref03_fits.f a0_3).bind fun t153 => (if t153 = true then ((tidemillref03_fits.f a0_4).bind fun t154 => (if t154 = true then ((tidemillref03_all.f k l0_9).bind fun t155 => (if t155 = true then ((tidemillref03_all.f k l0_10).bind fun t156 => (if t156 = true then ((tidemillref03_Time.f a0_7).bind fun t157 => (if t157 = true then (if (l0_9.length : Int) > 8 then (tidemillref03_May.j0 k true a0_0 a0_1 a0_2 a0_3 a0_4 a0_5 a0_6 a0_7 a0_8 l0_9 l0_10) else (tidemillref03_May.j0 k (decide ((l0_10.length : Int) > 256)) a0_0 a0_1 a0_2 a0_3 a0_4 a0_5 a0_6 a0_7 a0_8 l0_9 l0_10)) else (tidemillref03_May.j0 k true a0_0 a0_1 a0_2 a0_3 a0_4 a0_5 a0_6 a0_7 a0_8 l0_9 l0_10))) else (tidemillref03_May.j0 k true a0_0 a0_1 a0_2 a0_3 a0_4 a0_5 a0_6 a0_7 a0_8 l0_9 l0_10))) else (tidemillref03_May.j0 k true a0_0 a0_1 a0_2 a0_3 a0_4 a0_5 a0_6 a0_7 a0_8 l0_9 l0_10))) else (tidemillref03_May.j0 k true a0_0 a0_1 a0_2 a0_3 a0_4 a0_5 a0_6 a0_7 a0_8 l0_9 l0_10))) else (tidemillref03_May.j0 k true a0_0 a0_1 a0_2 a0_3 a0_4 a0_5 a0_6 a0_7 a0_8 l0_9 l0_10))) else (tidemillref03_May.j0 k true a0_0 a0_1 a0_2 a0_3 a0_4 a0_5 a0_6 a0_7 a0_8 l0_9 l0_10))) else (tidemillref03_May.j0 k true a0_0 a0_1 a0_2 a0_3 a0_4 a0_5 a0_6 a0_7 a0_8 l0_9 l0_10))))) = some r := h
  clear h
  have HC2 := Aside0.mk H
  clear H
  go_enter Try.func31, Try.ntmps31
  go_upto_region 1 with (first | ((with_reducible refine gate_dst (N := 1) rfl ?_); (try (refine gate_guard (by rfl) ?_; dsimp only)); refine box_event ?hg (N := 1) ?hd (cs := #[.int .i64 a0_0, .int .i64 a0_1, .int .i64 a0_2, .int .i64 a0_3, .int .i64 a0_4, .int .i64 a0_5, .int .i64 a0_6, .int .i64 a0_7, .bool a0_8, .slice A0_9 l0_9.length c0_9, .slice A0_10 l0_10.length c0_10]) (t := 47) ?hr ?_; (case hd => rfl); (case hg => rfl); (case hr => first | (go_simp; done) | (go_simp; rfl)); intro gb150 hg w3 hbox hb; have n0_ := Aside0.mk (below_step (by repeat (first | (with_reducible first | exact HB.out | apply below_alloc | apply pw_below_drewN | apply below_drew1) | exact HB.out)) hb); have n1_ := Aside0.mk (hbox); have n2_ := Aside0.mk ((by rw [hg]; exact (below_size (by repeat (first | (with_reducible first | exact HB.out | apply below_alloc | apply pw_below_drewN | apply below_drew1) | exact HB.out))) : w.heap.size ≤ gb150)); have n3_ := Aside0.mk ((by rw [hg]; exact (below_size (by repeat (first | (with_reducible first | exact HB.out | apply below_alloc | apply pw_below_drewN | apply below_drew1) | exact HB.out))) : w.heap.size ≤ gb150)); clear HB; have HB := n0_; have BK150 := n1_; have GW150 := n2_; have GE150 := n3_; clear n0_ n1_ n2_ n3_; clear hb hbox hg))
  (try simp only [Act.put, List.setIfInBounds_toArray, List.set_cons_zero, List.set_cons_succ])
  go_cut [71] (fun v71 wc => ∃ (kq : Nat) (x71_1 : Bool), v71 = .bool x71_1 ∧ Aside0 (tidemillref03_May.j0 kq x71_1 a0_0 a0_1 a0_2 a0_3 a0_4 a0_5 a0_6 a0_7 a0_8 l0_9 l0_10 = some r) ∧ Aside0 (kq ≤ k) ∧ Aside0 (wc.heap[gb150]? = some (.cells #[.int .i64 a0_0, .int .i64 a0_1, .int .i64 a0_2, .int .i64 a0_3, .int .i64 a0_4, .int .i64 a0_5, .int .i64 a0_6, .int .i64 a0_7, .bool a0_8, (.slice A0_9 l0_9.length c0_9), (.slice A0_10 l0_10.length c0_10)] 47 (0, 0))) ∧ Aside0 (Below w.heap.size w wc))
  case first =>
    have H := HC2.out
    clear HC2
    by_cases c4 : a0_0 < 1
    · rw [if_pos c4] at H
      have c4b0 : decide (a0_0 < 1) = true := decide_eq_true c4
      clear c4
      (first | rw [c4b0] | (simp only [i64_w, i32_w]; rw [c4b0]) | skip)
      have H' := Aside0.mk H
      clear H
      have hcz5_0 : w3.cell? ⟨gb150, 0, none⟩ = some (.int .i64 a0_0) := (blk_cell BK150.out 0).trans rfl
      have hcz5_1 : w3.cell? ⟨gb150, 1, none⟩ = some (.int .i64 a0_1) := (blk_cell BK150.out 1).trans rfl
      have hcz5_2 : w3.cell? ⟨gb150, 2, none⟩ = some (.int .i64 a0_2) := (blk_cell BK150.out 2).trans rfl
      have hcz5_3 : w3.cell? ⟨gb150, 3, none⟩ = some (.int .i64 a0_3) := (blk_cell BK150.out 3).trans rfl
      have hcz5_4 : w3.cell? ⟨gb150, 4, none⟩ = some (.int .i64 a0_4) := (blk_cell BK150.out 4).trans rfl
      have hcz5_5 : w3.cell? ⟨gb150, 5, none⟩ = some (.int .i64 a0_5) := (blk_cell BK150.out 5).trans rfl
      have hcz5_6 : w3.cell? ⟨gb150, 6, none⟩ = some (.int .i64 a0_6) := (blk_cell BK150.out 6).trans rfl
      have hcz5_7 : w3.cell? ⟨gb150, 7, none⟩ = some (.int .i64 a0_7) := (blk_cell BK150.out 7).trans rfl
      have hcz5_8 : w3.cell? ⟨gb150, 8, none⟩ = some (.bool a0_8) := (blk_cell BK150.out 8).trans rfl
      have hcz5_9 : w3.cell? ⟨gb150, 9, none⟩ = some (.slice A0_9 l0_9.length c0_9) := (blk_cell BK150.out 9).trans rfl
      have hcz5_10 : w3.cell? ⟨gb150, 10, none⟩ = some (.slice A0_10 l0_10.length c0_10) := (blk_cell BK150.out 10).trans rfl
      have hfz5_0 := blk_frozen BK150.out 0
      have hfz5_1 := blk_frozen BK150.out 1
      have hfz5_2 := blk_frozen BK150.out 2
      have hfz5_3 := blk_frozen BK150.out 3
      have hfz5_4 := blk_frozen BK150.out 4
      have hfz5_5 := blk_frozen BK150.out 5
      have hfz5_6 := blk_frozen BK150.out 6
      have hfz5_7 := blk_frozen BK150.out 7
      have hfz5_8 := blk_frozen BK150.out 8
      have hfz5_9 := blk_frozen BK150.out 9
      have hfz5_10 := blk_frozen BK150.out 10
      go_wp2
      go_meet
      case rel => exact ⟨_, (true), (by first | rfl | (simp; done) | (simp [*]; done)), H', ⟨by first | omega | exact Nat.le_refl _⟩, ⟨by (with_reducible repeat (first | refine blk_drewN ?_ _ | refine blk_drew ?_ | refine blk_alloc ?_ _)); exact BK150.out⟩, ⟨by repeat (first | (with_reducible first | exact HB.out | apply below_alloc | apply pw_below_drewN | apply below_drew1 | refine below_set ?_ GE150.out) | exact HB.out)⟩⟩
    · rw [if_neg c4] at H
      have c4b0 : decide (a0_0 < 1) = false := decide_eq_false c4
      clear c4
      (first | rw [c4b0] | (simp only [i64_w, i32_w]; rw [c4b0]) | skip)
      by_cases c6 : a0_0 > 6
      · rw [if_pos c6] at H
        have c6b0 : decide (6 < a0_0) = true := decide_eq_true c6
        clear c6
        have H' := Aside0.mk H
        clear H
        have hcz7_0 : w3.cell? ⟨gb150, 0, none⟩ = some (.int .i64 a0_0) := (blk_cell BK150.out 0).trans rfl
        have hcz7_1 : w3.cell? ⟨gb150, 1, none⟩ = some (.int .i64 a0_1) := (blk_cell BK150.out 1).trans rfl
        have hcz7_2 : w3.cell? ⟨gb150, 2, none⟩ = some (.int .i64 a0_2) := (blk_cell BK150.out 2).trans rfl
        have hcz7_3 : w3.cell? ⟨gb150, 3, none⟩ = some (.int .i64 a0_3) := (blk_cell BK150.out 3).trans rfl
        have hcz7_4 : w3.cell? ⟨gb150, 4, none⟩ = some (.int .i64 a0_4) := (blk_cell BK150.out 4).trans rfl
        have hcz7_5 : w3.cell? ⟨gb150, 5, none⟩ = some (.int .i64 a0_5) := (blk_cell BK150.out 5).trans rfl
        have hcz7_6 : w3.cell? ⟨gb150, 6, none⟩ = some (.int .i64 a0_6) := (blk_cell BK150.out 6).trans rfl
        have hcz7_7 : w3.cell? ⟨gb150, 7, none⟩ = some (.int .i64 a0_7) := (blk_cell BK150.out 7).trans rfl
        have hcz7_8 : w3.cell? ⟨gb150, 8, none⟩ = some (.bool a0_8) := (blk_cell BK150.out 8).trans rfl
        have hcz7_9 : w3.cell? ⟨gb150, 9, none⟩ = some (.slice A0_9 l0_9.length c0_9) := (blk_cell BK150.out 9).trans rfl
        have hcz7_10 : w3.cell? ⟨gb150, 10, none⟩ = some (.slice A0_10 l0_10.length c0_10) := (blk_cell BK150.out 10).trans rfl
        have hfz7_0 := blk_frozen BK150.out 0
        have hfz7_1 := blk_frozen BK150.out 1
        have hfz7_2 := blk_frozen BK150.out 2
        have hfz7_3 := blk_frozen BK150.out 3
        have hfz7_4 := blk_frozen BK150.out 4
        have hfz7_5 := blk_frozen BK150.out 5
        have hfz7_6 := blk_frozen BK150.out 6
        have hfz7_7 := blk_frozen BK150.out 7
        have hfz7_8 := blk_frozen BK150.out 8
        have hfz7_9 := blk_frozen BK150.out 9
        have hfz7_10 := blk_frozen BK150.out 10
        go_wp2
        go_meet
        case rel => exact ⟨_, (true), (by first | rfl | (simp; done) | (simp [*]; done)), H', ⟨by first | omega | exact Nat.le_refl _⟩, ⟨by (with_reducible repeat (first | refine blk_drewN ?_ _ | refine blk_drew ?_ | refine blk_alloc ?_ _)); exact BK150.out⟩, ⟨by repeat (first | (with_reducible first | exact HB.out | apply below_alloc | apply pw_below_drewN | apply below_drew1 | refine below_set ?_ GE150.out) | exact HB.out)⟩⟩
      · rw [if_neg c6] at H
        have c6b0 : decide (6 < a0_0) = false := decide_eq_false c6
        clear c6
        replace H := Option.bind_eq_some_iff.mp H
        obtain ⟨t151, A80, H⟩ := H
        replace H : (if t151 = true then ((tidemillref03_fits.f a0_2).bind fun t152 => (if t152 = true then ((tidemillref03_fits.f a0_3).bind fun t153 => (if t153 = true then ((tidemillref03_fits.f a0_4).bind fun t154 => (if t154 = true then ((tidemillref03_all.f k l0_9).bind fun t155 => (if t155 = true then ((tidemillref03_all.f k l0_10).bind fun t156 => (if t156 = true then ((tidemillref03_Time.f a0_7).bind fun t157 => (if t157 = true then (if (l0_9.length : Int) > 8 then (tidemillref03_May.j0 k true a0_0 a0_1 a0_2 a0_3 a0_4 a0_5 a0_6 a0_7 a0_8 l0_9 l0_10) else (tidemillref03_May.j0 k (decide ((l0_10.length : Int) > 256)) a0_0 a0_1 a0_2 a0_3 a0_4 a0_5 a0_6 a0_7 a0_8 l0_9 l0_10)) else (tidemillref03_May.j0 k true a0_0 a0_1 a0_2 a0_3 a0_4 a0_5 a0_6 a0_7 a0_8 l0_9 l0_10))) else (tidemillref03_May.j0 k true a0_0 a0_1 a0_2 a0_3 a0_4 a0_5 a0_6 a0_7 a0_8 l0_9 l0_10))) else (tidemillref03_May.j0 k true a0_0 a0_1 a0_2 a0_3 a0_4 a0_5 a0_6 a0_7 a0_8 l0_9 l0_10))) else (tidemillref03_May.j0 k true a0_0 a0_1 a0_2 a0_3 a0_4 a0_5 a0_6 a0_7 a0_8 l0_9 l0_10))) else (tidemillref03_May.j0 k true a0_0 a0_1 a0_2 a0_3 a0_4 a0_5 a0_6 a0_7 a0_8 l0_9 l0_10))) else (tidemillref03_May.j0 k true a0_0 a0_1 a0_2 a0_3 a0_4 a0_5 a0_6 a0_7 a0_8 l0_9 l0_10))) else (tidemillref03_May.j0 k true a0_0 a0_1 a0_2 a0_3 a0_4 a0_5 a0_6 a0_7 a0_8 l0_9 l0_10)) = some r := H
        have A8 := Aside0.mk A80
        clear A80
        by_cases c9 : t151 = true
        · subst c9
          have H1 : ((tidemillref03_fits.f a0_2).bind fun t152 => (if t152 = true then ((tidemillref03_fits.f a0_3).bind fun t153 => (if t153 = true then ((tidemillref03_fits.f a0_4).bind fun t154 => (if t154 = true then ((tidemillref03_all.f k l0_9).bind fun t155 => (if t155 = true then ((tidemillref03_all.f k l0_10).bind fun t156 => (if t156 = true then ((tidemillref03_Time.f a0_7).bind fun t157 => (if t157 = true then (if (l0_9.length : Int) > 8 then (tidemillref03_May.j0 k true a0_0 a0_1 a0_2 a0_3 a0_4 a0_5 a0_6 a0_7 a0_8 l0_9 l0_10) else (tidemillref03_May.j0 k (decide ((l0_10.length : Int) > 256)) a0_0 a0_1 a0_2 a0_3 a0_4 a0_5 a0_6 a0_7 a0_8 l0_9 l0_10)) else (tidemillref03_May.j0 k true a0_0 a0_1 a0_2 a0_3 a0_4 a0_5 a0_6 a0_7 a0_8 l0_9 l0_10))) else (tidemillref03_May.j0 k true a0_0 a0_1 a0_2 a0_3 a0_4 a0_5 a0_6 a0_7 a0_8 l0_9 l0_10))) else (tidemillref03_May.j0 k true a0_0 a0_1 a0_2 a0_3 a0_4 a0_5 a0_6 a0_7 a0_8 l0_9 l0_10))) else (tidemillref03_May.j0 k true a0_0 a0_1 a0_2 a0_3 a0_4 a0_5 a0_6 a0_7 a0_8 l0_9 l0_10))) else (tidemillref03_May.j0 k true a0_0 a0_1 a0_2 a0_3 a0_4 a0_5 a0_6 a0_7 a0_8 l0_9 l0_10))) else (tidemillref03_May.j0 k true a0_0 a0_1 a0_2 a0_3 a0_4 a0_5 a0_6 a0_7 a0_8 l0_9 l0_10))) = some r := by rw [if_pos rfl] at H; exact H
          clear H
          have H := H1
          clear H1
          replace H := Option.bind_eq_some_iff.mp H
          obtain ⟨t152, A100, H⟩ := H
          replace H : (if t152 = true then ((tidemillref03_fits.f a0_3).bind fun t153 => (if t153 = true then ((tidemillref03_fits.f a0_4).bind fun t154 => (if t154 = true then ((tidemillref03_all.f k l0_9).bind fun t155 => (if t155 = true then ((tidemillref03_all.f k l0_10).bind fun t156 => (if t156 = true then ((tidemillref03_Time.f a0_7).bind fun t157 => (if t157 = true then (if (l0_9.length : Int) > 8 then (tidemillref03_May.j0 k true a0_0 a0_1 a0_2 a0_3 a0_4 a0_5 a0_6 a0_7 a0_8 l0_9 l0_10) else (tidemillref03_May.j0 k (decide ((l0_10.length : Int) > 256)) a0_0 a0_1 a0_2 a0_3 a0_4 a0_5 a0_6 a0_7 a0_8 l0_9 l0_10)) else (tidemillref03_May.j0 k true a0_0 a0_1 a0_2 a0_3 a0_4 a0_5 a0_6 a0_7 a0_8 l0_9 l0_10))) else (tidemillref03_May.j0 k true a0_0 a0_1 a0_2 a0_3 a0_4 a0_5 a0_6 a0_7 a0_8 l0_9 l0_10))) else (tidemillref03_May.j0 k true a0_0 a0_1 a0_2 a0_3 a0_4 a0_5 a0_6 a0_7 a0_8 l0_9 l0_10))) else (tidemillref03_May.j0 k true a0_0 a0_1 a0_2 a0_3 a0_4 a0_5 a0_6 a0_7 a0_8 l0_9 l0_10))) else (tidemillref03_May.j0 k true a0_0 a0_1 a0_2 a0_3 a0_4 a0_5 a0_6 a0_7 a0_8 l0_9 l0_10))) else (tidemillref03_May.j0 k true a0_0 a0_1 a0_2 a0_3 a0_4 a0_5 a0_6 a0_7 a0_8 l0_9 l0_10)) = some r := H
          have A10 := Aside0.mk A100
          clear A100
          by_cases c11 : t152 = true
          · subst c11
            have H1 : ((tidemillref03_fits.f a0_3).bind fun t153 => (if t153 = true then ((tidemillref03_fits.f a0_4).bind fun t154 => (if t154 = true then ((tidemillref03_all.f k l0_9).bind fun t155 => (if t155 = true then ((tidemillref03_all.f k l0_10).bind fun t156 => (if t156 = true then ((tidemillref03_Time.f a0_7).bind fun t157 => (if t157 = true then (if (l0_9.length : Int) > 8 then (tidemillref03_May.j0 k true a0_0 a0_1 a0_2 a0_3 a0_4 a0_5 a0_6 a0_7 a0_8 l0_9 l0_10) else (tidemillref03_May.j0 k (decide ((l0_10.length : Int) > 256)) a0_0 a0_1 a0_2 a0_3 a0_4 a0_5 a0_6 a0_7 a0_8 l0_9 l0_10)) else (tidemillref03_May.j0 k true a0_0 a0_1 a0_2 a0_3 a0_4 a0_5 a0_6 a0_7 a0_8 l0_9 l0_10))) else (tidemillref03_May.j0 k true a0_0 a0_1 a0_2 a0_3 a0_4 a0_5 a0_6 a0_7 a0_8 l0_9 l0_10))) else (tidemillref03_May.j0 k true a0_0 a0_1 a0_2 a0_3 a0_4 a0_5 a0_6 a0_7 a0_8 l0_9 l0_10))) else (tidemillref03_May.j0 k true a0_0 a0_1 a0_2 a0_3 a0_4 a0_5 a0_6 a0_7 a0_8 l0_9 l0_10))) else (tidemillref03_May.j0 k true a0_0 a0_1 a0_2 a0_3 a0_4 a0_5 a0_6 a0_7 a0_8 l0_9 l0_10))) = some r := by rw [if_pos rfl] at H; exact H
            clear H
            have H := H1
            clear H1
            replace H := Option.bind_eq_some_iff.mp H
            obtain ⟨t153, A120, H⟩ := H
            replace H : (if t153 = true then ((tidemillref03_fits.f a0_4).bind fun t154 => (if t154 = true then ((tidemillref03_all.f k l0_9).bind fun t155 => (if t155 = true then ((tidemillref03_all.f k l0_10).bind fun t156 => (if t156 = true then ((tidemillref03_Time.f a0_7).bind fun t157 => (if t157 = true then (if (l0_9.length : Int) > 8 then (tidemillref03_May.j0 k true a0_0 a0_1 a0_2 a0_3 a0_4 a0_5 a0_6 a0_7 a0_8 l0_9 l0_10) else (tidemillref03_May.j0 k (decide ((l0_10.length : Int) > 256)) a0_0 a0_1 a0_2 a0_3 a0_4 a0_5 a0_6 a0_7 a0_8 l0_9 l0_10)) else (tidemillref03_May.j0 k true a0_0 a0_1 a0_2 a0_3 a0_4 a0_5 a0_6 a0_7 a0_8 l0_9 l0_10))) else (tidemillref03_May.j0 k true a0_0 a0_1 a0_2 a0_3 a0_4 a0_5 a0_6 a0_7 a0_8 l0_9 l0_10))) else (tidemillref03_May.j0 k true a0_0 a0_1 a0_2 a0_3 a0_4 a0_5 a0_6 a0_7 a0_8 l0_9 l0_10))) else (tidemillref03_May.j0 k true a0_0 a0_1 a0_2 a0_3 a0_4 a0_5 a0_6 a0_7 a0_8 l0_9 l0_10))) else (tidemillref03_May.j0 k true a0_0 a0_1 a0_2 a0_3 a0_4 a0_5 a0_6 a0_7 a0_8 l0_9 l0_10)) = some r := H
            have A12 := Aside0.mk A120
            clear A120
            by_cases c13 : t153 = true
            · subst c13
              have H1 : ((tidemillref03_fits.f a0_4).bind fun t154 => (if t154 = true then ((tidemillref03_all.f k l0_9).bind fun t155 => (if t155 = true then ((tidemillref03_all.f k l0_10).bind fun t156 => (if t156 = true then ((tidemillref03_Time.f a0_7).bind fun t157 => (if t157 = true then (if (l0_9.length : Int) > 8 then (tidemillref03_May.j0 k true a0_0 a0_1 a0_2 a0_3 a0_4 a0_5 a0_6 a0_7 a0_8 l0_9 l0_10) else (tidemillref03_May.j0 k (decide ((l0_10.length : Int) > 256)) a0_0 a0_1 a0_2 a0_3 a0_4 a0_5 a0_6 a0_7 a0_8 l0_9 l0_10)) else (tidemillref03_May.j0 k true a0_0 a0_1 a0_2 a0_3 a0_4 a0_5 a0_6 a0_7 a0_8 l0_9 l0_10))) else (tidemillref03_May.j0 k true a0_0 a0_1 a0_2 a0_3 a0_4 a0_5 a0_6 a0_7 a0_8 l0_9 l0_10))) else (tidemillref03_May.j0 k true a0_0 a0_1 a0_2 a0_3 a0_4 a0_5 a0_6 a0_7 a0_8 l0_9 l0_10))) else (tidemillref03_May.j0 k true a0_0 a0_1 a0_2 a0_3 a0_4 a0_5 a0_6 a0_7 a0_8 l0_9 l0_10))) = some r := by rw [if_pos rfl] at H; exact H
              clear H
              have H := H1
              clear H1
              replace H := Option.bind_eq_some_iff.mp H
              obtain ⟨t154, A140, H⟩ := H
              replace H : (if t154 = true then ((tidemillref03_all.f k l0_9).bind fun t155 => (if t155 = true then ((tidemillref03_all.f k l0_10).bind fun t156 => (if t156 = true then ((tidemillref03_Time.f a0_7).bind fun t157 => (if t157 = true then (if (l0_9.length : Int) > 8 then (tidemillref03_May.j0 k true a0_0 a0_1 a0_2 a0_3 a0_4 a0_5 a0_6 a0_7 a0_8 l0_9 l0_10) else (tidemillref03_May.j0 k (decide ((l0_10.length : Int) > 256)) a0_0 a0_1 a0_2 a0_3 a0_4 a0_5 a0_6 a0_7 a0_8 l0_9 l0_10)) else (tidemillref03_May.j0 k true a0_0 a0_1 a0_2 a0_3 a0_4 a0_5 a0_6 a0_7 a0_8 l0_9 l0_10))) else (tidemillref03_May.j0 k true a0_0 a0_1 a0_2 a0_3 a0_4 a0_5 a0_6 a0_7 a0_8 l0_9 l0_10))) else (tidemillref03_May.j0 k true a0_0 a0_1 a0_2 a0_3 a0_4 a0_5 a0_6 a0_7 a0_8 l0_9 l0_10))) else (tidemillref03_May.j0 k true a0_0 a0_1 a0_2 a0_3 a0_4 a0_5 a0_6 a0_7 a0_8 l0_9 l0_10)) = some r := H
              have A14 := Aside0.mk A140
              clear A140
              by_cases c15 : t154 = true
              · subst c15
                have H1 : ((tidemillref03_all.f k l0_9).bind fun t155 => (if t155 = true then ((tidemillref03_all.f k l0_10).bind fun t156 => (if t156 = true then ((tidemillref03_Time.f a0_7).bind fun t157 => (if t157 = true then (if (l0_9.length : Int) > 8 then (tidemillref03_May.j0 k true a0_0 a0_1 a0_2 a0_3 a0_4 a0_5 a0_6 a0_7 a0_8 l0_9 l0_10) else (tidemillref03_May.j0 k (decide ((l0_10.length : Int) > 256)) a0_0 a0_1 a0_2 a0_3 a0_4 a0_5 a0_6 a0_7 a0_8 l0_9 l0_10)) else (tidemillref03_May.j0 k true a0_0 a0_1 a0_2 a0_3 a0_4 a0_5 a0_6 a0_7 a0_8 l0_9 l0_10))) else (tidemillref03_May.j0 k true a0_0 a0_1 a0_2 a0_3 a0_4 a0_5 a0_6 a0_7 a0_8 l0_9 l0_10))) else (tidemillref03_May.j0 k true a0_0 a0_1 a0_2 a0_3 a0_4 a0_5 a0_6 a0_7 a0_8 l0_9 l0_10))) = some r := by rw [if_pos rfl] at H; exact H
                clear H
                have H := H1
                clear H1
                replace H := Option.bind_eq_some_iff.mp H
                obtain ⟨t155, A160, H⟩ := H
                replace H : (if t155 = true then ((tidemillref03_all.f k l0_10).bind fun t156 => (if t156 = true then ((tidemillref03_Time.f a0_7).bind fun t157 => (if t157 = true then (if (l0_9.length : Int) > 8 then (tidemillref03_May.j0 k true a0_0 a0_1 a0_2 a0_3 a0_4 a0_5 a0_6 a0_7 a0_8 l0_9 l0_10) else (tidemillref03_May.j0 k (decide ((l0_10.length : Int) > 256)) a0_0 a0_1 a0_2 a0_3 a0_4 a0_5 a0_6 a0_7 a0_8 l0_9 l0_10)) else (tidemillref03_May.j0 k true a0_0 a0_1 a0_2 a0_3 a0_4 a0_5 a0_6 a0_7 a0_8 l0_9 l0_10))) else (tidemillref03_May.j0 k true a0_0 a0_1 a0_2 a0_3 a0_4 a0_5 a0_6 a0_7 a0_8 l0_9 l0_10))) else (tidemillref03_May.j0 k true a0_0 a0_1 a0_2 a0_3 a0_4 a0_5 a0_6 a0_7 a0_8 l0_9 l0_10)) = some r := H
                have A16 := Aside0.mk A160
                clear A160
                by_cases c17 : t155 = true
                · subst c17
                  have H1 : ((tidemillref03_all.f k l0_10).bind fun t156 => (if t156 = true then ((tidemillref03_Time.f a0_7).bind fun t157 => (if t157 = true then (if (l0_9.length : Int) > 8 then (tidemillref03_May.j0 k true a0_0 a0_1 a0_2 a0_3 a0_4 a0_5 a0_6 a0_7 a0_8 l0_9 l0_10) else (tidemillref03_May.j0 k (decide ((l0_10.length : Int) > 256)) a0_0 a0_1 a0_2 a0_3 a0_4 a0_5 a0_6 a0_7 a0_8 l0_9 l0_10)) else (tidemillref03_May.j0 k true a0_0 a0_1 a0_2 a0_3 a0_4 a0_5 a0_6 a0_7 a0_8 l0_9 l0_10))) else (tidemillref03_May.j0 k true a0_0 a0_1 a0_2 a0_3 a0_4 a0_5 a0_6 a0_7 a0_8 l0_9 l0_10))) = some r := by rw [if_pos rfl] at H; exact H
                  clear H
                  have H := H1
                  clear H1
                  replace H := Option.bind_eq_some_iff.mp H
                  obtain ⟨t156, A180, H⟩ := H
                  replace H : (if t156 = true then ((tidemillref03_Time.f a0_7).bind fun t157 => (if t157 = true then (if (l0_9.length : Int) > 8 then (tidemillref03_May.j0 k true a0_0 a0_1 a0_2 a0_3 a0_4 a0_5 a0_6 a0_7 a0_8 l0_9 l0_10) else (tidemillref03_May.j0 k (decide ((l0_10.length : Int) > 256)) a0_0 a0_1 a0_2 a0_3 a0_4 a0_5 a0_6 a0_7 a0_8 l0_9 l0_10)) else (tidemillref03_May.j0 k true a0_0 a0_1 a0_2 a0_3 a0_4 a0_5 a0_6 a0_7 a0_8 l0_9 l0_10))) else (tidemillref03_May.j0 k true a0_0 a0_1 a0_2 a0_3 a0_4 a0_5 a0_6 a0_7 a0_8 l0_9 l0_10)) = some r := H
                  have A18 := Aside0.mk A180
                  clear A180
                  by_cases c19 : t156 = true
                  · subst c19
                    have H1 : ((tidemillref03_Time.f a0_7).bind fun t157 => (if t157 = true then (if (l0_9.length : Int) > 8 then (tidemillref03_May.j0 k true a0_0 a0_1 a0_2 a0_3 a0_4 a0_5 a0_6 a0_7 a0_8 l0_9 l0_10) else (tidemillref03_May.j0 k (decide ((l0_10.length : Int) > 256)) a0_0 a0_1 a0_2 a0_3 a0_4 a0_5 a0_6 a0_7 a0_8 l0_9 l0_10)) else (tidemillref03_May.j0 k true a0_0 a0_1 a0_2 a0_3 a0_4 a0_5 a0_6 a0_7 a0_8 l0_9 l0_10))) = some r := by rw [if_pos rfl] at H; exact H
                    clear H
                    have H := H1
                    clear H1
                    replace H := Option.bind_eq_some_iff.mp H
                    obtain ⟨t157, A200, H⟩ := H
                    replace H : (if t157 = true then (if (l0_9.length : Int) > 8 then (tidemillref03_May.j0 k true a0_0 a0_1 a0_2 a0_3 a0_4 a0_5 a0_6 a0_7 a0_8 l0_9 l0_10) else (tidemillref03_May.j0 k (decide ((l0_10.length : Int) > 256)) a0_0 a0_1 a0_2 a0_3 a0_4 a0_5 a0_6 a0_7 a0_8 l0_9 l0_10)) else (tidemillref03_May.j0 k true a0_0 a0_1 a0_2 a0_3 a0_4 a0_5 a0_6 a0_7 a0_8 l0_9 l0_10)) = some r := H
                    have A20 := Aside0.mk A200
                    clear A200
                    by_cases c21 : t157 = true
                    · subst c21
                      have H1 : (if (l0_9.length : Int) > 8 then (tidemillref03_May.j0 k true a0_0 a0_1 a0_2 a0_3 a0_4 a0_5 a0_6 a0_7 a0_8 l0_9 l0_10) else (tidemillref03_May.j0 k (decide ((l0_10.length : Int) > 256)) a0_0 a0_1 a0_2 a0_3 a0_4 a0_5 a0_6 a0_7 a0_8 l0_9 l0_10)) = some r := by rw [if_pos rfl] at H; exact H
                      clear H
                      have H := H1
                      clear H1
                      by_cases c22 : (l0_9.length : Int) > 8
                      · rw [if_pos c22] at H
                        have c22b0 : decide (8 < (l0_9.length : Int)) = true := decide_eq_true c22
                        have c22b1 : decide (8 < l0_9.length) = true := decide_eq_true (by omega)
                        clear c22
                        have H' := Aside0.mk H
                        clear H
                        have hcz23_0 : w3.cell? ⟨gb150, 0, none⟩ = some (.int .i64 a0_0) := (blk_cell BK150.out 0).trans rfl
                        have hcz23_1 : w3.cell? ⟨gb150, 1, none⟩ = some (.int .i64 a0_1) := (blk_cell BK150.out 1).trans rfl
                        have hcz23_2 : w3.cell? ⟨gb150, 2, none⟩ = some (.int .i64 a0_2) := (blk_cell BK150.out 2).trans rfl
                        have hcz23_3 : w3.cell? ⟨gb150, 3, none⟩ = some (.int .i64 a0_3) := (blk_cell BK150.out 3).trans rfl
                        have hcz23_4 : w3.cell? ⟨gb150, 4, none⟩ = some (.int .i64 a0_4) := (blk_cell BK150.out 4).trans rfl
                        have hcz23_5 : w3.cell? ⟨gb150, 5, none⟩ = some (.int .i64 a0_5) := (blk_cell BK150.out 5).trans rfl
                        have hcz23_6 : w3.cell? ⟨gb150, 6, none⟩ = some (.int .i64 a0_6) := (blk_cell BK150.out 6).trans rfl
                        have hcz23_7 : w3.cell? ⟨gb150, 7, none⟩ = some (.int .i64 a0_7) := (blk_cell BK150.out 7).trans rfl
                        have hcz23_8 : w3.cell? ⟨gb150, 8, none⟩ = some (.bool a0_8) := (blk_cell BK150.out 8).trans rfl
                        have hcz23_9 : w3.cell? ⟨gb150, 9, none⟩ = some (.slice A0_9 l0_9.length c0_9) := (blk_cell BK150.out 9).trans rfl
                        have hcz23_10 : w3.cell? ⟨gb150, 10, none⟩ = some (.slice A0_10 l0_10.length c0_10) := (blk_cell BK150.out 10).trans rfl
                        have hfz23_0 := blk_frozen BK150.out 0
                        have hfz23_1 := blk_frozen BK150.out 1
                        have hfz23_2 := blk_frozen BK150.out 2
                        have hfz23_3 := blk_frozen BK150.out 3
                        have hfz23_4 := blk_frozen BK150.out 4
                        have hfz23_5 := blk_frozen BK150.out 5
                        have hfz23_6 := blk_frozen BK150.out 6
                        have hfz23_7 := blk_frozen BK150.out 7
                        have hfz23_8 := blk_frozen BK150.out 8
                        have hfz23_9 := blk_frozen BK150.out 9
                        have hfz23_10 := blk_frozen BK150.out 10
                        go_wp2_with (first | (go_at_call 38; (with_reducible refine (tidemillref03_fits.calls a0_1 true _ A8.out).mono ?_); rintro e w' ⟨rfl, ⟨nd, rfl⟩⟩) | (go_at_call 38; (with_reducible refine (tidemillref03_fits.calls a0_2 true _ A10.out).mono ?_); rintro e w' ⟨rfl, ⟨nd, rfl⟩⟩) | (go_at_call 38; (with_reducible refine (tidemillref03_fits.calls a0_3 true _ A12.out).mono ?_); rintro e w' ⟨rfl, ⟨nd, rfl⟩⟩) | (go_at_call 38; (with_reducible refine (tidemillref03_fits.calls a0_4 true _ A14.out).mono ?_); rintro e w' ⟨rfl, ⟨nd, rfl⟩⟩) | (go_at_call 39; (with_reducible refine (tidemillref03_all.calls k _ _ l0_9 true _ ?side1 ?side2 A16.out).mono ?_); (case side1 => repeat (first | exact (Kd.C_below HR0_9.out (by repeat (first | (with_reducible first | exact HB.out | apply below_alloc | apply pw_below_drewN | apply below_drew1 | refine below_set ?_ GE150.out) | exact HB.out))) | (with_reducible refine Kd.C_alloc ?_ _) | (with_reducible refine Kd.C_drewN ?_ _) | (with_reducible refine Kd.C_drew ?_))); (case side2 => exact HC0_9.out); rintro e w' ⟨rfl, ⟨nd, rfl⟩⟩) | (go_at_call 39; (with_reducible refine (tidemillref03_all.calls k _ _ l0_10 true _ ?side1 ?side2 A18.out).mono ?_); (case side1 => repeat (first | exact (Kd.C_below HR0_10.out (by repeat (first | (with_reducible first | exact HB.out | apply below_alloc | apply pw_below_drewN | apply below_drew1 | refine below_set ?_ GE150.out) | exact HB.out))) | (with_reducible refine Kd.C_alloc ?_ _) | (with_reducible refine Kd.C_drewN ?_ _) | (with_reducible refine Kd.C_drew ?_))); (case side2 => exact HC0_10.out); rintro e w' ⟨rfl, ⟨nd, rfl⟩⟩) | (go_at_call 40; (with_reducible refine (tidemillref03_Time.calls a0_7 true _ A20.out).mono ?_); rintro e w' ⟨rfl, ⟨nd, rfl⟩⟩))
                        go_meet
                        case rel => exact ⟨_, (true), (by first | rfl | (simp; done) | (simp [*]; done)), H', ⟨by first | omega | exact Nat.le_refl _⟩, ⟨by (with_reducible repeat (first | refine blk_drewN ?_ _ | refine blk_drew ?_ | refine blk_alloc ?_ _)); exact BK150.out⟩, ⟨by repeat (first | (with_reducible first | exact HB.out | apply below_alloc | apply pw_below_drewN | apply below_drew1 | refine below_set ?_ GE150.out) | exact HB.out)⟩⟩
                      · rw [if_neg c22] at H
                        have c22b0 : decide (8 < (l0_9.length : Int)) = false := decide_eq_false c22
                        have c22b1 : decide (8 < l0_9.length) = false := decide_eq_false (by omega)
                        clear c22
                        have H' := Aside0.mk H
                        clear H
                        have hcz24_0 : w3.cell? ⟨gb150, 0, none⟩ = some (.int .i64 a0_0) := (blk_cell BK150.out 0).trans rfl
                        have hcz24_1 : w3.cell? ⟨gb150, 1, none⟩ = some (.int .i64 a0_1) := (blk_cell BK150.out 1).trans rfl
                        have hcz24_2 : w3.cell? ⟨gb150, 2, none⟩ = some (.int .i64 a0_2) := (blk_cell BK150.out 2).trans rfl
                        have hcz24_3 : w3.cell? ⟨gb150, 3, none⟩ = some (.int .i64 a0_3) := (blk_cell BK150.out 3).trans rfl
                        have hcz24_4 : w3.cell? ⟨gb150, 4, none⟩ = some (.int .i64 a0_4) := (blk_cell BK150.out 4).trans rfl
                        have hcz24_5 : w3.cell? ⟨gb150, 5, none⟩ = some (.int .i64 a0_5) := (blk_cell BK150.out 5).trans rfl
                        have hcz24_6 : w3.cell? ⟨gb150, 6, none⟩ = some (.int .i64 a0_6) := (blk_cell BK150.out 6).trans rfl
                        have hcz24_7 : w3.cell? ⟨gb150, 7, none⟩ = some (.int .i64 a0_7) := (blk_cell BK150.out 7).trans rfl
                        have hcz24_8 : w3.cell? ⟨gb150, 8, none⟩ = some (.bool a0_8) := (blk_cell BK150.out 8).trans rfl
                        have hcz24_9 : w3.cell? ⟨gb150, 9, none⟩ = some (.slice A0_9 l0_9.length c0_9) := (blk_cell BK150.out 9).trans rfl
                        have hcz24_10 : w3.cell? ⟨gb150, 10, none⟩ = some (.slice A0_10 l0_10.length c0_10) := (blk_cell BK150.out 10).trans rfl
                        have hfz24_0 := blk_frozen BK150.out 0
                        have hfz24_1 := blk_frozen BK150.out 1
                        have hfz24_2 := blk_frozen BK150.out 2
                        have hfz24_3 := blk_frozen BK150.out 3
                        have hfz24_4 := blk_frozen BK150.out 4
                        have hfz24_5 := blk_frozen BK150.out 5
                        have hfz24_6 := blk_frozen BK150.out 6
                        have hfz24_7 := blk_frozen BK150.out 7
                        have hfz24_8 := blk_frozen BK150.out 8
                        have hfz24_9 := blk_frozen BK150.out 9
                        have hfz24_10 := blk_frozen BK150.out 10
                        go_wp2_with (first | (go_at_call 38; (with_reducible refine (tidemillref03_fits.calls a0_1 true _ A8.out).mono ?_); rintro e w' ⟨rfl, ⟨nd, rfl⟩⟩) | (go_at_call 38; (with_reducible refine (tidemillref03_fits.calls a0_2 true _ A10.out).mono ?_); rintro e w' ⟨rfl, ⟨nd, rfl⟩⟩) | (go_at_call 38; (with_reducible refine (tidemillref03_fits.calls a0_3 true _ A12.out).mono ?_); rintro e w' ⟨rfl, ⟨nd, rfl⟩⟩) | (go_at_call 38; (with_reducible refine (tidemillref03_fits.calls a0_4 true _ A14.out).mono ?_); rintro e w' ⟨rfl, ⟨nd, rfl⟩⟩) | (go_at_call 39; (with_reducible refine (tidemillref03_all.calls k _ _ l0_9 true _ ?side1 ?side2 A16.out).mono ?_); (case side1 => repeat (first | exact (Kd.C_below HR0_9.out (by repeat (first | (with_reducible first | exact HB.out | apply below_alloc | apply pw_below_drewN | apply below_drew1 | refine below_set ?_ GE150.out) | exact HB.out))) | (with_reducible refine Kd.C_alloc ?_ _) | (with_reducible refine Kd.C_drewN ?_ _) | (with_reducible refine Kd.C_drew ?_))); (case side2 => exact HC0_9.out); rintro e w' ⟨rfl, ⟨nd, rfl⟩⟩) | (go_at_call 39; (with_reducible refine (tidemillref03_all.calls k _ _ l0_10 true _ ?side1 ?side2 A18.out).mono ?_); (case side1 => repeat (first | exact (Kd.C_below HR0_10.out (by repeat (first | (with_reducible first | exact HB.out | apply below_alloc | apply pw_below_drewN | apply below_drew1 | refine below_set ?_ GE150.out) | exact HB.out))) | (with_reducible refine Kd.C_alloc ?_ _) | (with_reducible refine Kd.C_drewN ?_ _) | (with_reducible refine Kd.C_drew ?_))); (case side2 => exact HC0_10.out); rintro e w' ⟨rfl, ⟨nd, rfl⟩⟩) | (go_at_call 40; (with_reducible refine (tidemillref03_Time.calls a0_7 true _ A20.out).mono ?_); rintro e w' ⟨rfl, ⟨nd, rfl⟩⟩))
                        go_meet
                        case rel => exact ⟨_, (decide ((l0_10.length : Int) > 256)), (by first | rfl | (simp; done) | (simp [*]; done)), H', ⟨by first | omega | exact Nat.le_refl _⟩, ⟨by (with_reducible repeat (first | refine blk_drewN ?_ _ | refine blk_drew ?_ | refine blk_alloc ?_ _)); exact BK150.out⟩, ⟨by repeat (first | (with_reducible first | exact HB.out | apply below_alloc | apply pw_below_drewN | apply below_drew1 | refine below_set ?_ GE150.out) | exact HB.out)⟩⟩
                    · replace c21 := Bool.eq_false_iff.mpr c21
                      subst c21
                      have H1 : (tidemillref03_May.j0 k true a0_0 a0_1 a0_2 a0_3 a0_4 a0_5 a0_6 a0_7 a0_8 l0_9 l0_10) = some r := by rw [if_neg (show ¬ (false = true) by decide)] at H; exact H
                      clear H
                      have H := H1
                      clear H1
                      have H' := Aside0.mk H
                      clear H
                      have hcz25_0 : w3.cell? ⟨gb150, 0, none⟩ = some (.int .i64 a0_0) := (blk_cell BK150.out 0).trans rfl
                      have hcz25_1 : w3.cell? ⟨gb150, 1, none⟩ = some (.int .i64 a0_1) := (blk_cell BK150.out 1).trans rfl
                      have hcz25_2 : w3.cell? ⟨gb150, 2, none⟩ = some (.int .i64 a0_2) := (blk_cell BK150.out 2).trans rfl
                      have hcz25_3 : w3.cell? ⟨gb150, 3, none⟩ = some (.int .i64 a0_3) := (blk_cell BK150.out 3).trans rfl
                      have hcz25_4 : w3.cell? ⟨gb150, 4, none⟩ = some (.int .i64 a0_4) := (blk_cell BK150.out 4).trans rfl
                      have hcz25_5 : w3.cell? ⟨gb150, 5, none⟩ = some (.int .i64 a0_5) := (blk_cell BK150.out 5).trans rfl
                      have hcz25_6 : w3.cell? ⟨gb150, 6, none⟩ = some (.int .i64 a0_6) := (blk_cell BK150.out 6).trans rfl
                      have hcz25_7 : w3.cell? ⟨gb150, 7, none⟩ = some (.int .i64 a0_7) := (blk_cell BK150.out 7).trans rfl
                      have hcz25_8 : w3.cell? ⟨gb150, 8, none⟩ = some (.bool a0_8) := (blk_cell BK150.out 8).trans rfl
                      have hcz25_9 : w3.cell? ⟨gb150, 9, none⟩ = some (.slice A0_9 l0_9.length c0_9) := (blk_cell BK150.out 9).trans rfl
                      have hcz25_10 : w3.cell? ⟨gb150, 10, none⟩ = some (.slice A0_10 l0_10.length c0_10) := (blk_cell BK150.out 10).trans rfl
                      have hfz25_0 := blk_frozen BK150.out 0
                      have hfz25_1 := blk_frozen BK150.out 1
                      have hfz25_2 := blk_frozen BK150.out 2
                      have hfz25_3 := blk_frozen BK150.out 3
                      have hfz25_4 := blk_frozen BK150.out 4
                      have hfz25_5 := blk_frozen BK150.out 5
                      have hfz25_6 := blk_frozen BK150.out 6
                      have hfz25_7 := blk_frozen BK150.out 7
                      have hfz25_8 := blk_frozen BK150.out 8
                      have hfz25_9 := blk_frozen BK150.out 9
                      have hfz25_10 := blk_frozen BK150.out 10
                      go_wp2_with (first | (go_at_call 38; (with_reducible refine (tidemillref03_fits.calls a0_1 true _ A8.out).mono ?_); rintro e w' ⟨rfl, ⟨nd, rfl⟩⟩) | (go_at_call 38; (with_reducible refine (tidemillref03_fits.calls a0_2 true _ A10.out).mono ?_); rintro e w' ⟨rfl, ⟨nd, rfl⟩⟩) | (go_at_call 38; (with_reducible refine (tidemillref03_fits.calls a0_3 true _ A12.out).mono ?_); rintro e w' ⟨rfl, ⟨nd, rfl⟩⟩) | (go_at_call 38; (with_reducible refine (tidemillref03_fits.calls a0_4 true _ A14.out).mono ?_); rintro e w' ⟨rfl, ⟨nd, rfl⟩⟩) | (go_at_call 39; (with_reducible refine (tidemillref03_all.calls k _ _ l0_9 true _ ?side1 ?side2 A16.out).mono ?_); (case side1 => repeat (first | exact (Kd.C_below HR0_9.out (by repeat (first | (with_reducible first | exact HB.out | apply below_alloc | apply pw_below_drewN | apply below_drew1 | refine below_set ?_ GE150.out) | exact HB.out))) | (with_reducible refine Kd.C_alloc ?_ _) | (with_reducible refine Kd.C_drewN ?_ _) | (with_reducible refine Kd.C_drew ?_))); (case side2 => exact HC0_9.out); rintro e w' ⟨rfl, ⟨nd, rfl⟩⟩) | (go_at_call 39; (with_reducible refine (tidemillref03_all.calls k _ _ l0_10 true _ ?side1 ?side2 A18.out).mono ?_); (case side1 => repeat (first | exact (Kd.C_below HR0_10.out (by repeat (first | (with_reducible first | exact HB.out | apply below_alloc | apply pw_below_drewN | apply below_drew1 | refine below_set ?_ GE150.out) | exact HB.out))) | (with_reducible refine Kd.C_alloc ?_ _) | (with_reducible refine Kd.C_drewN ?_ _) | (with_reducible refine Kd.C_drew ?_))); (case side2 => exact HC0_10.out); rintro e w' ⟨rfl, ⟨nd, rfl⟩⟩) | (go_at_call 40; (with_reducible refine (tidemillref03_Time.calls a0_7 false _ A20.out).mono ?_); rintro e w' ⟨rfl, ⟨nd, rfl⟩⟩))
                      go_meet
                      case rel => exact ⟨_, (true), (by first | rfl | (simp; done) | (simp [*]; done)), H', ⟨by first | omega | exact Nat.le_refl _⟩, ⟨by (with_reducible repeat (first | refine blk_drewN ?_ _ | refine blk_drew ?_ | refine blk_alloc ?_ _)); exact BK150.out⟩, ⟨by repeat (first | (with_reducible first | exact HB.out | apply below_alloc | apply pw_below_drewN | apply below_drew1 | refine below_set ?_ GE150.out) | exact HB.out)⟩⟩
                  · replace c19 := Bool.eq_false_iff.mpr c19
                    subst c19
                    have H1 : (tidemillref03_May.j0 k true a0_0 a0_1 a0_2 a0_3 a0_4 a0_5 a0_6 a0_7 a0_8 l0_9 l0_10) = some r := by rw [if_neg (show ¬ (false = true) by decide)] at H; exact H
                    clear H
                    have H := H1
                    clear H1
                    have H' := Aside0.mk H
                    clear H
                    have hcz26_0 : w3.cell? ⟨gb150, 0, none⟩ = some (.int .i64 a0_0) := (blk_cell BK150.out 0).trans rfl
                    have hcz26_1 : w3.cell? ⟨gb150, 1, none⟩ = some (.int .i64 a0_1) := (blk_cell BK150.out 1).trans rfl
                    have hcz26_2 : w3.cell? ⟨gb150, 2, none⟩ = some (.int .i64 a0_2) := (blk_cell BK150.out 2).trans rfl
                    have hcz26_3 : w3.cell? ⟨gb150, 3, none⟩ = some (.int .i64 a0_3) := (blk_cell BK150.out 3).trans rfl
                    have hcz26_4 : w3.cell? ⟨gb150, 4, none⟩ = some (.int .i64 a0_4) := (blk_cell BK150.out 4).trans rfl
                    have hcz26_5 : w3.cell? ⟨gb150, 5, none⟩ = some (.int .i64 a0_5) := (blk_cell BK150.out 5).trans rfl
                    have hcz26_6 : w3.cell? ⟨gb150, 6, none⟩ = some (.int .i64 a0_6) := (blk_cell BK150.out 6).trans rfl
                    have hcz26_7 : w3.cell? ⟨gb150, 7, none⟩ = some (.int .i64 a0_7) := (blk_cell BK150.out 7).trans rfl
                    have hcz26_8 : w3.cell? ⟨gb150, 8, none⟩ = some (.bool a0_8) := (blk_cell BK150.out 8).trans rfl
                    have hcz26_9 : w3.cell? ⟨gb150, 9, none⟩ = some (.slice A0_9 l0_9.length c0_9) := (blk_cell BK150.out 9).trans rfl
                    have hcz26_10 : w3.cell? ⟨gb150, 10, none⟩ = some (.slice A0_10 l0_10.length c0_10) := (blk_cell BK150.out 10).trans rfl
                    have hfz26_0 := blk_frozen BK150.out 0
                    have hfz26_1 := blk_frozen BK150.out 1
                    have hfz26_2 := blk_frozen BK150.out 2
                    have hfz26_3 := blk_frozen BK150.out 3
                    have hfz26_4 := blk_frozen BK150.out 4
                    have hfz26_5 := blk_frozen BK150.out 5
                    have hfz26_6 := blk_frozen BK150.out 6
                    have hfz26_7 := blk_frozen BK150.out 7
                    have hfz26_8 := blk_frozen BK150.out 8
                    have hfz26_9 := blk_frozen BK150.out 9
                    have hfz26_10 := blk_frozen BK150.out 10
                    go_wp2_with (first | (go_at_call 38; (with_reducible refine (tidemillref03_fits.calls a0_1 true _ A8.out).mono ?_); rintro e w' ⟨rfl, ⟨nd, rfl⟩⟩) | (go_at_call 38; (with_reducible refine (tidemillref03_fits.calls a0_2 true _ A10.out).mono ?_); rintro e w' ⟨rfl, ⟨nd, rfl⟩⟩) | (go_at_call 38; (with_reducible refine (tidemillref03_fits.calls a0_3 true _ A12.out).mono ?_); rintro e w' ⟨rfl, ⟨nd, rfl⟩⟩) | (go_at_call 38; (with_reducible refine (tidemillref03_fits.calls a0_4 true _ A14.out).mono ?_); rintro e w' ⟨rfl, ⟨nd, rfl⟩⟩) | (go_at_call 39; (with_reducible refine (tidemillref03_all.calls k _ _ l0_9 true _ ?side1 ?side2 A16.out).mono ?_); (case side1 => repeat (first | exact (Kd.C_below HR0_9.out (by repeat (first | (with_reducible first | exact HB.out | apply below_alloc | apply pw_below_drewN | apply below_drew1 | refine below_set ?_ GE150.out) | exact HB.out))) | (with_reducible refine Kd.C_alloc ?_ _) | (with_reducible refine Kd.C_drewN ?_ _) | (with_reducible refine Kd.C_drew ?_))); (case side2 => exact HC0_9.out); rintro e w' ⟨rfl, ⟨nd, rfl⟩⟩) | (go_at_call 39; (with_reducible refine (tidemillref03_all.calls k _ _ l0_10 false _ ?side1 ?side2 A18.out).mono ?_); (case side1 => repeat (first | exact (Kd.C_below HR0_10.out (by repeat (first | (with_reducible first | exact HB.out | apply below_alloc | apply pw_below_drewN | apply below_drew1 | refine below_set ?_ GE150.out) | exact HB.out))) | (with_reducible refine Kd.C_alloc ?_ _) | (with_reducible refine Kd.C_drewN ?_ _) | (with_reducible refine Kd.C_drew ?_))); (case side2 => exact HC0_10.out); rintro e w' ⟨rfl, ⟨nd, rfl⟩⟩))
                    go_meet
                    case rel => exact ⟨_, (true), (by first | rfl | (simp; done) | (simp [*]; done)), H', ⟨by first | omega | exact Nat.le_refl _⟩, ⟨by (with_reducible repeat (first | refine blk_drewN ?_ _ | refine blk_drew ?_ | refine blk_alloc ?_ _)); exact BK150.out⟩, ⟨by repeat (first | (with_reducible first | exact HB.out | apply below_alloc | apply pw_below_drewN | apply below_drew1 | refine below_set ?_ GE150.out) | exact HB.out)⟩⟩
                · replace c17 := Bool.eq_false_iff.mpr c17
                  subst c17
                  have H1 : (tidemillref03_May.j0 k true a0_0 a0_1 a0_2 a0_3 a0_4 a0_5 a0_6 a0_7 a0_8 l0_9 l0_10) = some r := by rw [if_neg (show ¬ (false = true) by decide)] at H; exact H
                  clear H
                  have H := H1
                  clear H1
                  have H' := Aside0.mk H
                  clear H
                  have hcz27_0 : w3.cell? ⟨gb150, 0, none⟩ = some (.int .i64 a0_0) := (blk_cell BK150.out 0).trans rfl
                  have hcz27_1 : w3.cell? ⟨gb150, 1, none⟩ = some (.int .i64 a0_1) := (blk_cell BK150.out 1).trans rfl
                  have hcz27_2 : w3.cell? ⟨gb150, 2, none⟩ = some (.int .i64 a0_2) := (blk_cell BK150.out 2).trans rfl
                  have hcz27_3 : w3.cell? ⟨gb150, 3, none⟩ = some (.int .i64 a0_3) := (blk_cell BK150.out 3).trans rfl
                  have hcz27_4 : w3.cell? ⟨gb150, 4, none⟩ = some (.int .i64 a0_4) := (blk_cell BK150.out 4).trans rfl
                  have hcz27_5 : w3.cell? ⟨gb150, 5, none⟩ = some (.int .i64 a0_5) := (blk_cell BK150.out 5).trans rfl
                  have hcz27_6 : w3.cell? ⟨gb150, 6, none⟩ = some (.int .i64 a0_6) := (blk_cell BK150.out 6).trans rfl
                  have hcz27_7 : w3.cell? ⟨gb150, 7, none⟩ = some (.int .i64 a0_7) := (blk_cell BK150.out 7).trans rfl
                  have hcz27_8 : w3.cell? ⟨gb150, 8, none⟩ = some (.bool a0_8) := (blk_cell BK150.out 8).trans rfl
                  have hcz27_9 : w3.cell? ⟨gb150, 9, none⟩ = some (.slice A0_9 l0_9.length c0_9) := (blk_cell BK150.out 9).trans rfl
                  have hcz27_10 : w3.cell? ⟨gb150, 10, none⟩ = some (.slice A0_10 l0_10.length c0_10) := (blk_cell BK150.out 10).trans rfl
                  have hfz27_0 := blk_frozen BK150.out 0
                  have hfz27_1 := blk_frozen BK150.out 1
                  have hfz27_2 := blk_frozen BK150.out 2
                  have hfz27_3 := blk_frozen BK150.out 3
                  have hfz27_4 := blk_frozen BK150.out 4
                  have hfz27_5 := blk_frozen BK150.out 5
                  have hfz27_6 := blk_frozen BK150.out 6
                  have hfz27_7 := blk_frozen BK150.out 7
                  have hfz27_8 := blk_frozen BK150.out 8
                  have hfz27_9 := blk_frozen BK150.out 9
                  have hfz27_10 := blk_frozen BK150.out 10
                  go_wp2_with (first | (go_at_call 38; (with_reducible refine (tidemillref03_fits.calls a0_1 true _ A8.out).mono ?_); rintro e w' ⟨rfl, ⟨nd, rfl⟩⟩) | (go_at_call 38; (with_reducible refine (tidemillref03_fits.calls a0_2 true _ A10.out).mono ?_); rintro e w' ⟨rfl, ⟨nd, rfl⟩⟩) | (go_at_call 38; (with_reducible refine (tidemillref03_fits.calls a0_3 true _ A12.out).mono ?_); rintro e w' ⟨rfl, ⟨nd, rfl⟩⟩) | (go_at_call 38; (with_reducible refine (tidemillref03_fits.calls a0_4 true _ A14.out).mono ?_); rintro e w' ⟨rfl, ⟨nd, rfl⟩⟩) | (go_at_call 39; (with_reducible refine (tidemillref03_all.calls k _ _ l0_9 false _ ?side1 ?side2 A16.out).mono ?_); (case side1 => repeat (first | exact (Kd.C_below HR0_9.out (by repeat (first | (with_reducible first | exact HB.out | apply below_alloc | apply pw_below_drewN | apply below_drew1 | refine below_set ?_ GE150.out) | exact HB.out))) | (with_reducible refine Kd.C_alloc ?_ _) | (with_reducible refine Kd.C_drewN ?_ _) | (with_reducible refine Kd.C_drew ?_))); (case side2 => exact HC0_9.out); rintro e w' ⟨rfl, ⟨nd, rfl⟩⟩))
                  go_meet
                  case rel => exact ⟨_, (true), (by first | rfl | (simp; done) | (simp [*]; done)), H', ⟨by first | omega | exact Nat.le_refl _⟩, ⟨by (with_reducible repeat (first | refine blk_drewN ?_ _ | refine blk_drew ?_ | refine blk_alloc ?_ _)); exact BK150.out⟩, ⟨by repeat (first | (with_reducible first | exact HB.out | apply below_alloc | apply pw_below_drewN | apply below_drew1 | refine below_set ?_ GE150.out) | exact HB.out)⟩⟩
              · replace c15 := Bool.eq_false_iff.mpr c15
                subst c15
                have H1 : (tidemillref03_May.j0 k true a0_0 a0_1 a0_2 a0_3 a0_4 a0_5 a0_6 a0_7 a0_8 l0_9 l0_10) = some r := by rw [if_neg (show ¬ (false = true) by decide)] at H; exact H
                clear H
                have H := H1
                clear H1
                have H' := Aside0.mk H
                clear H
                have hcz28_0 : w3.cell? ⟨gb150, 0, none⟩ = some (.int .i64 a0_0) := (blk_cell BK150.out 0).trans rfl
                have hcz28_1 : w3.cell? ⟨gb150, 1, none⟩ = some (.int .i64 a0_1) := (blk_cell BK150.out 1).trans rfl
                have hcz28_2 : w3.cell? ⟨gb150, 2, none⟩ = some (.int .i64 a0_2) := (blk_cell BK150.out 2).trans rfl
                have hcz28_3 : w3.cell? ⟨gb150, 3, none⟩ = some (.int .i64 a0_3) := (blk_cell BK150.out 3).trans rfl
                have hcz28_4 : w3.cell? ⟨gb150, 4, none⟩ = some (.int .i64 a0_4) := (blk_cell BK150.out 4).trans rfl
                have hcz28_5 : w3.cell? ⟨gb150, 5, none⟩ = some (.int .i64 a0_5) := (blk_cell BK150.out 5).trans rfl
                have hcz28_6 : w3.cell? ⟨gb150, 6, none⟩ = some (.int .i64 a0_6) := (blk_cell BK150.out 6).trans rfl
                have hcz28_7 : w3.cell? ⟨gb150, 7, none⟩ = some (.int .i64 a0_7) := (blk_cell BK150.out 7).trans rfl
                have hcz28_8 : w3.cell? ⟨gb150, 8, none⟩ = some (.bool a0_8) := (blk_cell BK150.out 8).trans rfl
                have hcz28_9 : w3.cell? ⟨gb150, 9, none⟩ = some (.slice A0_9 l0_9.length c0_9) := (blk_cell BK150.out 9).trans rfl
                have hcz28_10 : w3.cell? ⟨gb150, 10, none⟩ = some (.slice A0_10 l0_10.length c0_10) := (blk_cell BK150.out 10).trans rfl
                have hfz28_0 := blk_frozen BK150.out 0
                have hfz28_1 := blk_frozen BK150.out 1
                have hfz28_2 := blk_frozen BK150.out 2
                have hfz28_3 := blk_frozen BK150.out 3
                have hfz28_4 := blk_frozen BK150.out 4
                have hfz28_5 := blk_frozen BK150.out 5
                have hfz28_6 := blk_frozen BK150.out 6
                have hfz28_7 := blk_frozen BK150.out 7
                have hfz28_8 := blk_frozen BK150.out 8
                have hfz28_9 := blk_frozen BK150.out 9
                have hfz28_10 := blk_frozen BK150.out 10
                go_wp2_with (first | (go_at_call 38; (with_reducible refine (tidemillref03_fits.calls a0_1 true _ A8.out).mono ?_); rintro e w' ⟨rfl, ⟨nd, rfl⟩⟩) | (go_at_call 38; (with_reducible refine (tidemillref03_fits.calls a0_2 true _ A10.out).mono ?_); rintro e w' ⟨rfl, ⟨nd, rfl⟩⟩) | (go_at_call 38; (with_reducible refine (tidemillref03_fits.calls a0_3 true _ A12.out).mono ?_); rintro e w' ⟨rfl, ⟨nd, rfl⟩⟩) | (go_at_call 38; (with_reducible refine (tidemillref03_fits.calls a0_4 false _ A14.out).mono ?_); rintro e w' ⟨rfl, ⟨nd, rfl⟩⟩))
                go_meet
                case rel => exact ⟨_, (true), (by first | rfl | (simp; done) | (simp [*]; done)), H', ⟨by first | omega | exact Nat.le_refl _⟩, ⟨by (with_reducible repeat (first | refine blk_drewN ?_ _ | refine blk_drew ?_ | refine blk_alloc ?_ _)); exact BK150.out⟩, ⟨by repeat (first | (with_reducible first | exact HB.out | apply below_alloc | apply pw_below_drewN | apply below_drew1 | refine below_set ?_ GE150.out) | exact HB.out)⟩⟩
            · replace c13 := Bool.eq_false_iff.mpr c13
              subst c13
              have H1 : (tidemillref03_May.j0 k true a0_0 a0_1 a0_2 a0_3 a0_4 a0_5 a0_6 a0_7 a0_8 l0_9 l0_10) = some r := by rw [if_neg (show ¬ (false = true) by decide)] at H; exact H
              clear H
              have H := H1
              clear H1
              have H' := Aside0.mk H
              clear H
              have hcz29_0 : w3.cell? ⟨gb150, 0, none⟩ = some (.int .i64 a0_0) := (blk_cell BK150.out 0).trans rfl
              have hcz29_1 : w3.cell? ⟨gb150, 1, none⟩ = some (.int .i64 a0_1) := (blk_cell BK150.out 1).trans rfl
              have hcz29_2 : w3.cell? ⟨gb150, 2, none⟩ = some (.int .i64 a0_2) := (blk_cell BK150.out 2).trans rfl
              have hcz29_3 : w3.cell? ⟨gb150, 3, none⟩ = some (.int .i64 a0_3) := (blk_cell BK150.out 3).trans rfl
              have hcz29_4 : w3.cell? ⟨gb150, 4, none⟩ = some (.int .i64 a0_4) := (blk_cell BK150.out 4).trans rfl
              have hcz29_5 : w3.cell? ⟨gb150, 5, none⟩ = some (.int .i64 a0_5) := (blk_cell BK150.out 5).trans rfl
              have hcz29_6 : w3.cell? ⟨gb150, 6, none⟩ = some (.int .i64 a0_6) := (blk_cell BK150.out 6).trans rfl
              have hcz29_7 : w3.cell? ⟨gb150, 7, none⟩ = some (.int .i64 a0_7) := (blk_cell BK150.out 7).trans rfl
              have hcz29_8 : w3.cell? ⟨gb150, 8, none⟩ = some (.bool a0_8) := (blk_cell BK150.out 8).trans rfl
              have hcz29_9 : w3.cell? ⟨gb150, 9, none⟩ = some (.slice A0_9 l0_9.length c0_9) := (blk_cell BK150.out 9).trans rfl
              have hcz29_10 : w3.cell? ⟨gb150, 10, none⟩ = some (.slice A0_10 l0_10.length c0_10) := (blk_cell BK150.out 10).trans rfl
              have hfz29_0 := blk_frozen BK150.out 0
              have hfz29_1 := blk_frozen BK150.out 1
              have hfz29_2 := blk_frozen BK150.out 2
              have hfz29_3 := blk_frozen BK150.out 3
              have hfz29_4 := blk_frozen BK150.out 4
              have hfz29_5 := blk_frozen BK150.out 5
              have hfz29_6 := blk_frozen BK150.out 6
              have hfz29_7 := blk_frozen BK150.out 7
              have hfz29_8 := blk_frozen BK150.out 8
              have hfz29_9 := blk_frozen BK150.out 9
              have hfz29_10 := blk_frozen BK150.out 10
              go_wp2_with (first | (go_at_call 38; (with_reducible refine (tidemillref03_fits.calls a0_1 true _ A8.out).mono ?_); rintro e w' ⟨rfl, ⟨nd, rfl⟩⟩) | (go_at_call 38; (with_reducible refine (tidemillref03_fits.calls a0_2 true _ A10.out).mono ?_); rintro e w' ⟨rfl, ⟨nd, rfl⟩⟩) | (go_at_call 38; (with_reducible refine (tidemillref03_fits.calls a0_3 false _ A12.out).mono ?_); rintro e w' ⟨rfl, ⟨nd, rfl⟩⟩))
              go_meet
              case rel => exact ⟨_, (true), (by first | rfl | (simp; done) | (simp [*]; done)), H', ⟨by first | omega | exact Nat.le_refl _⟩, ⟨by (with_reducible repeat (first | refine blk_drewN ?_ _ | refine blk_drew ?_ | refine blk_alloc ?_ _)); exact BK150.out⟩, ⟨by repeat (first | (with_reducible first | exact HB.out | apply below_alloc | apply pw_below_drewN | apply below_drew1 | refine below_set ?_ GE150.out) | exact HB.out)⟩⟩
          · replace c11 := Bool.eq_false_iff.mpr c11
            subst c11
            have H1 : (tidemillref03_May.j0 k true a0_0 a0_1 a0_2 a0_3 a0_4 a0_5 a0_6 a0_7 a0_8 l0_9 l0_10) = some r := by rw [if_neg (show ¬ (false = true) by decide)] at H; exact H
            clear H
            have H := H1
            clear H1
            have H' := Aside0.mk H
            clear H
            have hcz30_0 : w3.cell? ⟨gb150, 0, none⟩ = some (.int .i64 a0_0) := (blk_cell BK150.out 0).trans rfl
            have hcz30_1 : w3.cell? ⟨gb150, 1, none⟩ = some (.int .i64 a0_1) := (blk_cell BK150.out 1).trans rfl
            have hcz30_2 : w3.cell? ⟨gb150, 2, none⟩ = some (.int .i64 a0_2) := (blk_cell BK150.out 2).trans rfl
            have hcz30_3 : w3.cell? ⟨gb150, 3, none⟩ = some (.int .i64 a0_3) := (blk_cell BK150.out 3).trans rfl
            have hcz30_4 : w3.cell? ⟨gb150, 4, none⟩ = some (.int .i64 a0_4) := (blk_cell BK150.out 4).trans rfl
            have hcz30_5 : w3.cell? ⟨gb150, 5, none⟩ = some (.int .i64 a0_5) := (blk_cell BK150.out 5).trans rfl
            have hcz30_6 : w3.cell? ⟨gb150, 6, none⟩ = some (.int .i64 a0_6) := (blk_cell BK150.out 6).trans rfl
            have hcz30_7 : w3.cell? ⟨gb150, 7, none⟩ = some (.int .i64 a0_7) := (blk_cell BK150.out 7).trans rfl
            have hcz30_8 : w3.cell? ⟨gb150, 8, none⟩ = some (.bool a0_8) := (blk_cell BK150.out 8).trans rfl
            have hcz30_9 : w3.cell? ⟨gb150, 9, none⟩ = some (.slice A0_9 l0_9.length c0_9) := (blk_cell BK150.out 9).trans rfl
            have hcz30_10 : w3.cell? ⟨gb150, 10, none⟩ = some (.slice A0_10 l0_10.length c0_10) := (blk_cell BK150.out 10).trans rfl
            have hfz30_0 := blk_frozen BK150.out 0
            have hfz30_1 := blk_frozen BK150.out 1
            have hfz30_2 := blk_frozen BK150.out 2
            have hfz30_3 := blk_frozen BK150.out 3
            have hfz30_4 := blk_frozen BK150.out 4
            have hfz30_5 := blk_frozen BK150.out 5
            have hfz30_6 := blk_frozen BK150.out 6
            have hfz30_7 := blk_frozen BK150.out 7
            have hfz30_8 := blk_frozen BK150.out 8
            have hfz30_9 := blk_frozen BK150.out 9
            have hfz30_10 := blk_frozen BK150.out 10
            go_wp2_with (first | (go_at_call 38; (with_reducible refine (tidemillref03_fits.calls a0_1 true _ A8.out).mono ?_); rintro e w' ⟨rfl, ⟨nd, rfl⟩⟩) | (go_at_call 38; (with_reducible refine (tidemillref03_fits.calls a0_2 false _ A10.out).mono ?_); rintro e w' ⟨rfl, ⟨nd, rfl⟩⟩))
            go_meet
            case rel => exact ⟨_, (true), (by first | rfl | (simp; done) | (simp [*]; done)), H', ⟨by first | omega | exact Nat.le_refl _⟩, ⟨by (with_reducible repeat (first | refine blk_drewN ?_ _ | refine blk_drew ?_ | refine blk_alloc ?_ _)); exact BK150.out⟩, ⟨by repeat (first | (with_reducible first | exact HB.out | apply below_alloc | apply pw_below_drewN | apply below_drew1 | refine below_set ?_ GE150.out) | exact HB.out)⟩⟩
        · replace c9 := Bool.eq_false_iff.mpr c9
          subst c9
          have H1 : (tidemillref03_May.j0 k true a0_0 a0_1 a0_2 a0_3 a0_4 a0_5 a0_6 a0_7 a0_8 l0_9 l0_10) = some r := by rw [if_neg (show ¬ (false = true) by decide)] at H; exact H
          clear H
          have H := H1
          clear H1
          have H' := Aside0.mk H
          clear H
          have hcz31_0 : w3.cell? ⟨gb150, 0, none⟩ = some (.int .i64 a0_0) := (blk_cell BK150.out 0).trans rfl
          have hcz31_1 : w3.cell? ⟨gb150, 1, none⟩ = some (.int .i64 a0_1) := (blk_cell BK150.out 1).trans rfl
          have hcz31_2 : w3.cell? ⟨gb150, 2, none⟩ = some (.int .i64 a0_2) := (blk_cell BK150.out 2).trans rfl
          have hcz31_3 : w3.cell? ⟨gb150, 3, none⟩ = some (.int .i64 a0_3) := (blk_cell BK150.out 3).trans rfl
          have hcz31_4 : w3.cell? ⟨gb150, 4, none⟩ = some (.int .i64 a0_4) := (blk_cell BK150.out 4).trans rfl
          have hcz31_5 : w3.cell? ⟨gb150, 5, none⟩ = some (.int .i64 a0_5) := (blk_cell BK150.out 5).trans rfl
          have hcz31_6 : w3.cell? ⟨gb150, 6, none⟩ = some (.int .i64 a0_6) := (blk_cell BK150.out 6).trans rfl
          have hcz31_7 : w3.cell? ⟨gb150, 7, none⟩ = some (.int .i64 a0_7) := (blk_cell BK150.out 7).trans rfl
          have hcz31_8 : w3.cell? ⟨gb150, 8, none⟩ = some (.bool a0_8) := (blk_cell BK150.out 8).trans rfl
          have hcz31_9 : w3.cell? ⟨gb150, 9, none⟩ = some (.slice A0_9 l0_9.length c0_9) := (blk_cell BK150.out 9).trans rfl
          have hcz31_10 : w3.cell? ⟨gb150, 10, none⟩ = some (.slice A0_10 l0_10.length c0_10) := (blk_cell BK150.out 10).trans rfl
          have hfz31_0 := blk_frozen BK150.out 0
          have hfz31_1 := blk_frozen BK150.out 1
          have hfz31_2 := blk_frozen BK150.out 2
          have hfz31_3 := blk_frozen BK150.out 3
          have hfz31_4 := blk_frozen BK150.out 4
          have hfz31_5 := blk_frozen BK150.out 5
          have hfz31_6 := blk_frozen BK150.out 6
          have hfz31_7 := blk_frozen BK150.out 7
          have hfz31_8 := blk_frozen BK150.out 8
          have hfz31_9 := blk_frozen BK150.out 9
          have hfz31_10 := blk_frozen BK150.out 10
          go_wp2_with (first | (go_at_call 38; (with_reducible refine (tidemillref03_fits.calls a0_1 false _ A8.out).mono ?_); rintro e w' ⟨rfl, ⟨nd, rfl⟩⟩))
          go_meet
          case rel => exact ⟨_, (true), (by first | rfl | (simp; done) | (simp [*]; done)), H', ⟨by first | omega | exact Nat.le_refl _⟩, ⟨by (with_reducible repeat (first | refine blk_drewN ?_ _ | refine blk_drew ?_ | refine blk_alloc ?_ _)); exact BK150.out⟩, ⟨by repeat (first | (with_reducible first | exact HB.out | apply below_alloc | apply pw_below_drewN | apply below_drew1 | refine below_set ?_ GE150.out) | exact HB.out)⟩⟩
  case rest =>
    clear HC2
    try clear c1
    try clear c2
    try clear p2
    try clear c3
    try clear c4
    try clear c4b0
    try clear c6
    try clear c6b0
    try clear c9
    try clear c11
    try clear c13
    try clear c15
    try clear c17
    try clear c19
    try clear c21
    try clear c22
    try clear c22b0
    try clear c22b1
    try clear c31
    try clear hcz23_0
    try clear hcz23_1
    try clear hcz23_10
    try clear hcz23_2
    try clear hcz23_3
    try clear hcz23_4
    try clear hcz23_5
    try clear hcz23_6
    try clear hcz23_7
    try clear hcz23_8
    try clear hcz23_9
    try clear hcz24_0
    try clear hcz24_1
    try clear hcz24_10
    try clear hcz24_2
    try clear hcz24_3
    try clear hcz24_4
    try clear hcz24_5
    try clear hcz24_6
    try clear hcz24_7
    try clear hcz24_8
    try clear hcz24_9
    try clear hcz25_0
    try clear hcz25_1
    try clear hcz25_10
    try clear hcz25_2
    try clear hcz25_3
    try clear hcz25_4
    try clear hcz25_5
    try clear hcz25_6
    try clear hcz25_7
    try clear hcz25_8
    try clear hcz25_9
    try clear hcz26_0
    try clear hcz26_1
    try clear hcz26_10
    try clear hcz26_2
    try clear hcz26_3
    try clear hcz26_4
    try clear hcz26_5
    try clear hcz26_6
    try clear hcz26_7
    try clear hcz26_8
    try clear hcz26_9
    try clear hcz27_0
    try clear hcz27_1
    try clear hcz27_10
    try clear hcz27_2
    try clear hcz27_3
    try clear hcz27_4
    try clear hcz27_5
    try clear hcz27_6
    try clear hcz27_7
    try clear hcz27_8
    try clear hcz27_9
    try clear hcz28_0
    try clear hcz28_1
    try clear hcz28_10
    try clear hcz28_2
    try clear hcz28_3
    try clear hcz28_4
    try clear hcz28_5
    try clear hcz28_6
    try clear hcz28_7
    try clear hcz28_8
    try clear hcz28_9
    try clear hcz29_0
    try clear hcz29_1
    try clear hcz29_10
    try clear hcz29_2
    try clear hcz29_3
    try clear hcz29_4
    try clear hcz29_5
    try clear hcz29_6
    try clear hcz29_7
    try clear hcz29_8
    try clear hcz29_9
    try clear hcz30_0
    try clear hcz30_1
    try clear hcz30_10
    try clear hcz30_2
    try clear hcz30_3
    try clear hcz30_4
    try clear hcz30_5
    try clear hcz30_6
    try clear hcz30_7
    try clear hcz30_8
    try clear hcz30_9
    try clear hcz31_0
    try clear hcz31_1
    try clear hcz31_10
    try clear hcz31_2
    try clear hcz31_3
    try clear hcz31_4
    try clear hcz31_5
    try clear hcz31_6
    try clear hcz31_7
    try clear hcz31_8
    try clear hcz31_9
    try clear hcz5_0
    try clear hcz5_1
    try clear hcz5_10
    try clear hcz5_2
    try clear hcz5_3
    try clear hcz5_4
    try clear hcz5_5
    try clear hcz5_6
    try clear hcz5_7
    try clear hcz5_8
    try clear hcz5_9
    try clear hcz7_0
    try clear hcz7_1
    try clear hcz7_10
    try clear hcz7_2
    try clear hcz7_3
    try clear hcz7_4
    try clear hcz7_5
    try clear hcz7_6
    try clear hcz7_7
    try clear hcz7_8
    try clear hcz7_9
    try clear hfz23_0
    try clear hfz23_1
    try clear hfz23_10
    try clear hfz23_2
    try clear hfz23_3
    try clear hfz23_4
    try clear hfz23_5
    try clear hfz23_6
    try clear hfz23_7
    try clear hfz23_8
    try clear hfz23_9
    try clear hfz24_0
    try clear hfz24_1
    try clear hfz24_10
    try clear hfz24_2
    try clear hfz24_3
    try clear hfz24_4
    try clear hfz24_5
    try clear hfz24_6
    try clear hfz24_7
    try clear hfz24_8
    try clear hfz24_9
    try clear hfz25_0
    try clear hfz25_1
    try clear hfz25_10
    try clear hfz25_2
    try clear hfz25_3
    try clear hfz25_4
    try clear hfz25_5
    try clear hfz25_6
    try clear hfz25_7
    try clear hfz25_8
    try clear hfz25_9
    try clear hfz26_0
    try clear hfz26_1
    try clear hfz26_10
    try clear hfz26_2
    try clear hfz26_3
    try clear hfz26_4
    try clear hfz26_5
    try clear hfz26_6
    try clear hfz26_7
    try clear hfz26_8
    try clear hfz26_9
    try clear hfz27_0
    try clear hfz27_1
    try clear hfz27_10
    try clear hfz27_2
    try clear hfz27_3
    try clear hfz27_4
    try clear hfz27_5
    try clear hfz27_6
    try clear hfz27_7
    try clear hfz27_8
    try clear hfz27_9
    try clear hfz28_0
    try clear hfz28_1
    try clear hfz28_10
    try clear hfz28_2
    try clear hfz28_3
    try clear hfz28_4
    try clear hfz28_5
    try clear hfz28_6
    try clear hfz28_7
    try clear hfz28_8
    try clear hfz28_9
    try clear hfz29_0
    try clear hfz29_1
    try clear hfz29_10
    try clear hfz29_2
    try clear hfz29_3
    try clear hfz29_4
    try clear hfz29_5
    try clear hfz29_6
    try clear hfz29_7
    try clear hfz29_8
    try clear hfz29_9
    try clear hfz30_0
    try clear hfz30_1
    try clear hfz30_10
    try clear hfz30_2
    try clear hfz30_3
    try clear hfz30_4
    try clear hfz30_5
    try clear hfz30_6
    try clear hfz30_7
    try clear hfz30_8
    try clear hfz30_9
    try clear hfz31_0
    try clear hfz31_1
    try clear hfz31_10
    try clear hfz31_2
    try clear hfz31_3
    try clear hfz31_4
    try clear hfz31_5
    try clear hfz31_6
    try clear hfz31_7
    try clear hfz31_8
    try clear hfz31_9
    try clear hfz5_0
    try clear hfz5_1
    try clear hfz5_10
    try clear hfz5_2
    try clear hfz5_3
    try clear hfz5_4
    try clear hfz5_5
    try clear hfz5_6
    try clear hfz5_7
    try clear hfz5_8
    try clear hfz5_9
    try clear hfz7_0
    try clear hfz7_1
    try clear hfz7_10
    try clear hfz7_2
    try clear hfz7_3
    try clear hfz7_4
    try clear hfz7_5
    try clear hfz7_6
    try clear hfz7_7
    try clear hfz7_8
    try clear hfz7_9
    obtain ⟨kq, x71_1, rfl, HA, HJ1, BK150, HB⟩ := hcut
    cases kq with
    | zero => exact absurd HA.out (by simp [tidemillref03_May.j0])
    | succ kj1 =>
      have H := HA.out
      clear HA
      simp only [tidemillref03_May.j0] at H
      by_cases c32 : x71_1 = true
      · subst c32
        have H1 : (some false) = some r := by rw [if_pos rfl] at H; exact H
        clear H
        have H := H1
        clear H1
        obtain rfl := Option.some.inj H
        go_wp2
        go_ret
        exact ⟨by first | rfl | (simp [errW_none, errW_some] <;> rfl) | (simp [*, errW_none, errW_some] <;> rfl), by repeat (first | (with_reducible first | exact HB.out | apply below_alloc | apply pw_below_drewN | apply below_drew1 | refine below_set ?_ GE150.out) | exact HB.out)⟩
      · replace c32 := Bool.eq_false_iff.mpr c32
        subst c32
        have H1 : (if a0_0 = 2 then (if a0_0 = 3 then (some true) else (if (l0_9.length : Int) = 0 then (some ((l0_10.length : Int) == 0)) else (some false))) else (if a0_0 = 3 then (if a0_0 = 1 then (if a0_8 = true then (some false) else (some true)) else (if a0_4 = 0 then (if (!(a0_5 == 0) || (!(a0_6 == 0) || (!(a0_7 == 0)))) = true then (some false) else (if a0_8 = true then (some false) else (some true))) else (some false))) else (if a0_0 = 4 then (if a0_0 = 1 then (if a0_8 = true then (some false) else (if (l0_9.length : Int) = 0 then (some ((l0_10.length : Int) == 0)) else (some false))) else (if a0_4 = 0 then (if (!(a0_5 == 0) || (!(a0_6 == 0) || (!(a0_7 == 0)))) = true then (some false) else (if a0_8 = true then (some false) else (if (l0_9.length : Int) = 0 then (some ((l0_10.length : Int) == 0)) else (some false)))) else (some false))) else (if a0_0 = 5 then (if a0_3 = 0 then (if a0_0 = 1 then (if a0_8 = true then (some false) else (if (l0_9.length : Int) = 0 then (some ((l0_10.length : Int) == 0)) else (some false))) else (if a0_4 = 0 then (if (!(a0_5 == 0) || (!(a0_6 == 0) || (!(a0_7 == 0)))) = true then (some false) else (if a0_8 = true then (some false) else (if (l0_9.length : Int) = 0 then (some ((l0_10.length : Int) == 0)) else (some false)))) else (some false))) else (some false)) else (if a0_1 = 0 then (if a0_2 = 0 then (if a0_3 = 0 then (if a0_0 = 1 then (if a0_8 = true then (some false) else (if (l0_9.length : Int) = 0 then (some ((l0_10.length : Int) == 0)) else (some false))) else (if a0_4 = 0 then (if (!(a0_5 == 0) || (!(a0_6 == 0) || (!(a0_7 == 0)))) = true then (some false) else (if a0_8 = true then (some false) else (if (l0_9.length : Int) = 0 then (some ((l0_10.length : Int) == 0)) else (some false)))) else (some false))) else (some false)) else (some false)) else (some false)))))) = some r := by rw [if_neg (show ¬ (false = true) by decide)] at H; exact H
        clear H
        have H := H1
        clear H1
        by_cases c33 : a0_0 = 2
        · rw [if_pos c33] at H
          have c33b0 : (a0_0 == 2) = true := beq_iff_eq.mpr c33
          have c33b1 : (a0_0 != 2) = false := bne_eq_false_iff_eq.mpr c33
          clear c33
          by_cases c34 : a0_0 = 3
          · rw [if_pos c34] at H
            have c34b0 : (a0_0 == 3) = true := beq_iff_eq.mpr c34
            have c34b1 : (a0_0 != 3) = false := bne_eq_false_iff_eq.mpr c34
            clear c34
            obtain rfl := Option.some.inj H
            have hcz35_0 : wc.cell? ⟨gb150, 0, none⟩ = some (.int .i64 a0_0) := (blk_cell BK150.out 0).trans rfl
            have hcz35_1 : wc.cell? ⟨gb150, 1, none⟩ = some (.int .i64 a0_1) := (blk_cell BK150.out 1).trans rfl
            have hcz35_2 : wc.cell? ⟨gb150, 2, none⟩ = some (.int .i64 a0_2) := (blk_cell BK150.out 2).trans rfl
            have hcz35_3 : wc.cell? ⟨gb150, 3, none⟩ = some (.int .i64 a0_3) := (blk_cell BK150.out 3).trans rfl
            have hcz35_4 : wc.cell? ⟨gb150, 4, none⟩ = some (.int .i64 a0_4) := (blk_cell BK150.out 4).trans rfl
            have hcz35_5 : wc.cell? ⟨gb150, 5, none⟩ = some (.int .i64 a0_5) := (blk_cell BK150.out 5).trans rfl
            have hcz35_6 : wc.cell? ⟨gb150, 6, none⟩ = some (.int .i64 a0_6) := (blk_cell BK150.out 6).trans rfl
            have hcz35_7 : wc.cell? ⟨gb150, 7, none⟩ = some (.int .i64 a0_7) := (blk_cell BK150.out 7).trans rfl
            have hcz35_8 : wc.cell? ⟨gb150, 8, none⟩ = some (.bool a0_8) := (blk_cell BK150.out 8).trans rfl
            have hcz35_9 : wc.cell? ⟨gb150, 9, none⟩ = some (.slice A0_9 l0_9.length c0_9) := (blk_cell BK150.out 9).trans rfl
            have hcz35_10 : wc.cell? ⟨gb150, 10, none⟩ = some (.slice A0_10 l0_10.length c0_10) := (blk_cell BK150.out 10).trans rfl
            have hfz35_0 := blk_frozen BK150.out 0
            have hfz35_1 := blk_frozen BK150.out 1
            have hfz35_2 := blk_frozen BK150.out 2
            have hfz35_3 := blk_frozen BK150.out 3
            have hfz35_4 := blk_frozen BK150.out 4
            have hfz35_5 := blk_frozen BK150.out 5
            have hfz35_6 := blk_frozen BK150.out 6
            have hfz35_7 := blk_frozen BK150.out 7
            have hfz35_8 := blk_frozen BK150.out 8
            have hfz35_9 := blk_frozen BK150.out 9
            have hfz35_10 := blk_frozen BK150.out 10
            go_wp2
            go_ret
            exact ⟨by first | rfl | (simp [errW_none, errW_some] <;> rfl) | (simp [*, errW_none, errW_some] <;> rfl), by repeat (first | (with_reducible first | exact HB.out | apply below_alloc | apply pw_below_drewN | apply below_drew1 | refine below_set ?_ GE150.out) | exact HB.out)⟩
          · rw [if_neg c34] at H
            have c34b0 : (a0_0 == 3) = false := beq_eq_false_iff_ne.mpr c34
            have c34b1 : (a0_0 != 3) = true := bne_iff_ne.mpr c34
            by_cases c36 : (l0_9.length : Int) = 0
            · rw [if_pos c36] at H
              have c36b0 : ((l0_9.length : Int) == 0) = true := beq_iff_eq.mpr c36
              have c36b1 : ((l0_9.length : Int) != 0) = false := bne_eq_false_iff_eq.mpr c36
              clear c36
              obtain rfl := Option.some.inj H
              have hcz37_0 : wc.cell? ⟨gb150, 0, none⟩ = some (.int .i64 a0_0) := (blk_cell BK150.out 0).trans rfl
              have hcz37_1 : wc.cell? ⟨gb150, 1, none⟩ = some (.int .i64 a0_1) := (blk_cell BK150.out 1).trans rfl
              have hcz37_2 : wc.cell? ⟨gb150, 2, none⟩ = some (.int .i64 a0_2) := (blk_cell BK150.out 2).trans rfl
              have hcz37_3 : wc.cell? ⟨gb150, 3, none⟩ = some (.int .i64 a0_3) := (blk_cell BK150.out 3).trans rfl
              have hcz37_4 : wc.cell? ⟨gb150, 4, none⟩ = some (.int .i64 a0_4) := (blk_cell BK150.out 4).trans rfl
              have hcz37_5 : wc.cell? ⟨gb150, 5, none⟩ = some (.int .i64 a0_5) := (blk_cell BK150.out 5).trans rfl
              have hcz37_6 : wc.cell? ⟨gb150, 6, none⟩ = some (.int .i64 a0_6) := (blk_cell BK150.out 6).trans rfl
              have hcz37_7 : wc.cell? ⟨gb150, 7, none⟩ = some (.int .i64 a0_7) := (blk_cell BK150.out 7).trans rfl
              have hcz37_8 : wc.cell? ⟨gb150, 8, none⟩ = some (.bool a0_8) := (blk_cell BK150.out 8).trans rfl
              have hcz37_9 : wc.cell? ⟨gb150, 9, none⟩ = some (.slice A0_9 l0_9.length c0_9) := (blk_cell BK150.out 9).trans rfl
              have hcz37_10 : wc.cell? ⟨gb150, 10, none⟩ = some (.slice A0_10 l0_10.length c0_10) := (blk_cell BK150.out 10).trans rfl
              have hfz37_0 := blk_frozen BK150.out 0
              have hfz37_1 := blk_frozen BK150.out 1
              have hfz37_2 := blk_frozen BK150.out 2
              have hfz37_3 := blk_frozen BK150.out 3
              have hfz37_4 := blk_frozen BK150.out 4
              have hfz37_5 := blk_frozen BK150.out 5
              have hfz37_6 := blk_frozen BK150.out 6
              have hfz37_7 := blk_frozen BK150.out 7
              have hfz37_8 := blk_frozen BK150.out 8
              have hfz37_9 := blk_frozen BK150.out 9
              have hfz37_10 := blk_frozen BK150.out 10
              go_wp2
              go_ret
              exact ⟨by first | rfl | (simp [errW_none, errW_some] <;> rfl) | (simp [*, errW_none, errW_some] <;> rfl), by repeat (first | (with_reducible first | exact HB.out | apply below_alloc | apply pw_below_drewN | apply below_drew1 | refine below_set ?_ GE150.out) | exact HB.out)⟩
            · rw [if_neg c36] at H
              have c36b0 : ((l0_9.length : Int) == 0) = false := beq_eq_false_iff_ne.mpr c36
              have c36b1 : ((l0_9.length : Int) != 0) = true := bne_iff_ne.mpr c36
              have c36b2 : ¬ (l0_9 = []) := fun h_ => c36 (by rw [h_]; rfl)
              obtain rfl := Option.some.inj H
              have hcz38_0 : wc.cell? ⟨gb150, 0, none⟩ = some (.int .i64 a0_0) := (blk_cell BK150.out 0).trans rfl
              have hcz38_1 : wc.cell? ⟨gb150, 1, none⟩ = some (.int .i64 a0_1) := (blk_cell BK150.out 1).trans rfl
              have hcz38_2 : wc.cell? ⟨gb150, 2, none⟩ = some (.int .i64 a0_2) := (blk_cell BK150.out 2).trans rfl
              have hcz38_3 : wc.cell? ⟨gb150, 3, none⟩ = some (.int .i64 a0_3) := (blk_cell BK150.out 3).trans rfl
              have hcz38_4 : wc.cell? ⟨gb150, 4, none⟩ = some (.int .i64 a0_4) := (blk_cell BK150.out 4).trans rfl
              have hcz38_5 : wc.cell? ⟨gb150, 5, none⟩ = some (.int .i64 a0_5) := (blk_cell BK150.out 5).trans rfl
              have hcz38_6 : wc.cell? ⟨gb150, 6, none⟩ = some (.int .i64 a0_6) := (blk_cell BK150.out 6).trans rfl
              have hcz38_7 : wc.cell? ⟨gb150, 7, none⟩ = some (.int .i64 a0_7) := (blk_cell BK150.out 7).trans rfl
              have hcz38_8 : wc.cell? ⟨gb150, 8, none⟩ = some (.bool a0_8) := (blk_cell BK150.out 8).trans rfl
              have hcz38_9 : wc.cell? ⟨gb150, 9, none⟩ = some (.slice A0_9 l0_9.length c0_9) := (blk_cell BK150.out 9).trans rfl
              have hcz38_10 : wc.cell? ⟨gb150, 10, none⟩ = some (.slice A0_10 l0_10.length c0_10) := (blk_cell BK150.out 10).trans rfl
              have hfz38_0 := blk_frozen BK150.out 0
              have hfz38_1 := blk_frozen BK150.out 1
              have hfz38_2 := blk_frozen BK150.out 2
              have hfz38_3 := blk_frozen BK150.out 3
              have hfz38_4 := blk_frozen BK150.out 4
              have hfz38_5 := blk_frozen BK150.out 5
              have hfz38_6 := blk_frozen BK150.out 6
              have hfz38_7 := blk_frozen BK150.out 7
              have hfz38_8 := blk_frozen BK150.out 8
              have hfz38_9 := blk_frozen BK150.out 9
              have hfz38_10 := blk_frozen BK150.out 10
              go_wp2
              go_ret
              exact ⟨by first | rfl | (simp [errW_none, errW_some] <;> rfl) | (simp [*, errW_none, errW_some] <;> rfl), by repeat (first | (with_reducible first | exact HB.out | apply below_alloc | apply pw_below_drewN | apply below_drew1 | refine below_set ?_ GE150.out) | exact HB.out)⟩
        · rw [if_neg c33] at H
          have c33b0 : (a0_0 == 2) = false := beq_eq_false_iff_ne.mpr c33
          have c33b1 : (a0_0 != 2) = true := bne_iff_ne.mpr c33
          by_cases c39 : a0_0 = 3
          · rw [if_pos c39] at H
            have c39b0 : (a0_0 == 3) = true := beq_iff_eq.mpr c39
            have c39b1 : (a0_0 != 3) = false := bne_eq_false_iff_eq.mpr c39
            clear c39
            by_cases c40 : a0_0 = 1
            · rw [if_pos c40] at H
              have c40b0 : (a0_0 == 1) = true := beq_iff_eq.mpr c40
              have c40b1 : (a0_0 != 1) = false := bne_eq_false_iff_eq.mpr c40
              clear c40
              by_cases c41 : a0_8 = true
              · subst c41
                have H1 : (some false) = some r := by rw [if_pos rfl] at H; exact H
                clear H
                have H := H1
                clear H1
                obtain rfl := Option.some.inj H
                have hcz42_0 : wc.cell? ⟨gb150, 0, none⟩ = some (.int .i64 a0_0) := (blk_cell BK150.out 0).trans rfl
                have hcz42_1 : wc.cell? ⟨gb150, 1, none⟩ = some (.int .i64 a0_1) := (blk_cell BK150.out 1).trans rfl
                have hcz42_2 : wc.cell? ⟨gb150, 2, none⟩ = some (.int .i64 a0_2) := (blk_cell BK150.out 2).trans rfl
                have hcz42_3 : wc.cell? ⟨gb150, 3, none⟩ = some (.int .i64 a0_3) := (blk_cell BK150.out 3).trans rfl
                have hcz42_4 : wc.cell? ⟨gb150, 4, none⟩ = some (.int .i64 a0_4) := (blk_cell BK150.out 4).trans rfl
                have hcz42_5 : wc.cell? ⟨gb150, 5, none⟩ = some (.int .i64 a0_5) := (blk_cell BK150.out 5).trans rfl
                have hcz42_6 : wc.cell? ⟨gb150, 6, none⟩ = some (.int .i64 a0_6) := (blk_cell BK150.out 6).trans rfl
                have hcz42_7 : wc.cell? ⟨gb150, 7, none⟩ = some (.int .i64 a0_7) := (blk_cell BK150.out 7).trans rfl
                have hcz42_8 : wc.cell? ⟨gb150, 8, none⟩ = some (.bool true) := (blk_cell BK150.out 8).trans rfl
                have hcz42_9 : wc.cell? ⟨gb150, 9, none⟩ = some (.slice A0_9 l0_9.length c0_9) := (blk_cell BK150.out 9).trans rfl
                have hcz42_10 : wc.cell? ⟨gb150, 10, none⟩ = some (.slice A0_10 l0_10.length c0_10) := (blk_cell BK150.out 10).trans rfl
                have hfz42_0 := blk_frozen BK150.out 0
                have hfz42_1 := blk_frozen BK150.out 1
                have hfz42_2 := blk_frozen BK150.out 2
                have hfz42_3 := blk_frozen BK150.out 3
                have hfz42_4 := blk_frozen BK150.out 4
                have hfz42_5 := blk_frozen BK150.out 5
                have hfz42_6 := blk_frozen BK150.out 6
                have hfz42_7 := blk_frozen BK150.out 7
                have hfz42_8 := blk_frozen BK150.out 8
                have hfz42_9 := blk_frozen BK150.out 9
                have hfz42_10 := blk_frozen BK150.out 10
                go_wp2
                go_ret
                exact ⟨by first | rfl | (simp [errW_none, errW_some] <;> rfl) | (simp [*, errW_none, errW_some] <;> rfl), by repeat (first | (with_reducible first | exact HB.out | apply below_alloc | apply pw_below_drewN | apply below_drew1 | refine below_set ?_ GE150.out) | exact HB.out)⟩
              · replace c41 := Bool.eq_false_iff.mpr c41
                subst c41
                have H1 : (some true) = some r := by rw [if_neg (show ¬ (false = true) by decide)] at H; exact H
                clear H
                have H := H1
                clear H1
                obtain rfl := Option.some.inj H
                have hcz43_0 : wc.cell? ⟨gb150, 0, none⟩ = some (.int .i64 a0_0) := (blk_cell BK150.out 0).trans rfl
                have hcz43_1 : wc.cell? ⟨gb150, 1, none⟩ = some (.int .i64 a0_1) := (blk_cell BK150.out 1).trans rfl
                have hcz43_2 : wc.cell? ⟨gb150, 2, none⟩ = some (.int .i64 a0_2) := (blk_cell BK150.out 2).trans rfl
                have hcz43_3 : wc.cell? ⟨gb150, 3, none⟩ = some (.int .i64 a0_3) := (blk_cell BK150.out 3).trans rfl
                have hcz43_4 : wc.cell? ⟨gb150, 4, none⟩ = some (.int .i64 a0_4) := (blk_cell BK150.out 4).trans rfl
                have hcz43_5 : wc.cell? ⟨gb150, 5, none⟩ = some (.int .i64 a0_5) := (blk_cell BK150.out 5).trans rfl
                have hcz43_6 : wc.cell? ⟨gb150, 6, none⟩ = some (.int .i64 a0_6) := (blk_cell BK150.out 6).trans rfl
                have hcz43_7 : wc.cell? ⟨gb150, 7, none⟩ = some (.int .i64 a0_7) := (blk_cell BK150.out 7).trans rfl
                have hcz43_8 : wc.cell? ⟨gb150, 8, none⟩ = some (.bool false) := (blk_cell BK150.out 8).trans rfl
                have hcz43_9 : wc.cell? ⟨gb150, 9, none⟩ = some (.slice A0_9 l0_9.length c0_9) := (blk_cell BK150.out 9).trans rfl
                have hcz43_10 : wc.cell? ⟨gb150, 10, none⟩ = some (.slice A0_10 l0_10.length c0_10) := (blk_cell BK150.out 10).trans rfl
                have hfz43_0 := blk_frozen BK150.out 0
                have hfz43_1 := blk_frozen BK150.out 1
                have hfz43_2 := blk_frozen BK150.out 2
                have hfz43_3 := blk_frozen BK150.out 3
                have hfz43_4 := blk_frozen BK150.out 4
                have hfz43_5 := blk_frozen BK150.out 5
                have hfz43_6 := blk_frozen BK150.out 6
                have hfz43_7 := blk_frozen BK150.out 7
                have hfz43_8 := blk_frozen BK150.out 8
                have hfz43_9 := blk_frozen BK150.out 9
                have hfz43_10 := blk_frozen BK150.out 10
                go_wp2
                go_ret
                exact ⟨by first | rfl | (simp [errW_none, errW_some] <;> rfl) | (simp [*, errW_none, errW_some] <;> rfl), by repeat (first | (with_reducible first | exact HB.out | apply below_alloc | apply pw_below_drewN | apply below_drew1 | refine below_set ?_ GE150.out) | exact HB.out)⟩
            · rw [if_neg c40] at H
              have c40b0 : (a0_0 == 1) = false := beq_eq_false_iff_ne.mpr c40
              have c40b1 : (a0_0 != 1) = true := bne_iff_ne.mpr c40
              by_cases c44 : a0_4 = 0
              · rw [if_pos c44] at H
                have c44b0 : (a0_4 == 0) = true := beq_iff_eq.mpr c44
                have c44b1 : (a0_4 != 0) = false := bne_eq_false_iff_eq.mpr c44
                clear c44
                by_cases c45 : (!(a0_5 == 0) || (!(a0_6 == 0) || (!(a0_7 == 0)))) = true
                · rw [if_pos c45] at H
                  have c45b0 : (!(a0_5 == 0) || (!(a0_6 == 0) || (!(a0_7 == 0)))) = true := c45
                  clear c45
                  obtain rfl := Option.some.inj H
                  have hcz46_0 : wc.cell? ⟨gb150, 0, none⟩ = some (.int .i64 a0_0) := (blk_cell BK150.out 0).trans rfl
                  have hcz46_1 : wc.cell? ⟨gb150, 1, none⟩ = some (.int .i64 a0_1) := (blk_cell BK150.out 1).trans rfl
                  have hcz46_2 : wc.cell? ⟨gb150, 2, none⟩ = some (.int .i64 a0_2) := (blk_cell BK150.out 2).trans rfl
                  have hcz46_3 : wc.cell? ⟨gb150, 3, none⟩ = some (.int .i64 a0_3) := (blk_cell BK150.out 3).trans rfl
                  have hcz46_4 : wc.cell? ⟨gb150, 4, none⟩ = some (.int .i64 a0_4) := (blk_cell BK150.out 4).trans rfl
                  have hcz46_5 : wc.cell? ⟨gb150, 5, none⟩ = some (.int .i64 a0_5) := (blk_cell BK150.out 5).trans rfl
                  have hcz46_6 : wc.cell? ⟨gb150, 6, none⟩ = some (.int .i64 a0_6) := (blk_cell BK150.out 6).trans rfl
                  have hcz46_7 : wc.cell? ⟨gb150, 7, none⟩ = some (.int .i64 a0_7) := (blk_cell BK150.out 7).trans rfl
                  have hcz46_8 : wc.cell? ⟨gb150, 8, none⟩ = some (.bool a0_8) := (blk_cell BK150.out 8).trans rfl
                  have hcz46_9 : wc.cell? ⟨gb150, 9, none⟩ = some (.slice A0_9 l0_9.length c0_9) := (blk_cell BK150.out 9).trans rfl
                  have hcz46_10 : wc.cell? ⟨gb150, 10, none⟩ = some (.slice A0_10 l0_10.length c0_10) := (blk_cell BK150.out 10).trans rfl
                  have hfz46_0 := blk_frozen BK150.out 0
                  have hfz46_1 := blk_frozen BK150.out 1
                  have hfz46_2 := blk_frozen BK150.out 2
                  have hfz46_3 := blk_frozen BK150.out 3
                  have hfz46_4 := blk_frozen BK150.out 4
                  have hfz46_5 := blk_frozen BK150.out 5
                  have hfz46_6 := blk_frozen BK150.out 6
                  have hfz46_7 := blk_frozen BK150.out 7
                  have hfz46_8 := blk_frozen BK150.out 8
                  have hfz46_9 := blk_frozen BK150.out 9
                  have hfz46_10 := blk_frozen BK150.out 10
                  go_wp2
                  go_ret
                  exact ⟨by first | rfl | (simp [errW_none, errW_some] <;> rfl) | (simp [*, errW_none, errW_some] <;> rfl), by repeat (first | (with_reducible first | exact HB.out | apply below_alloc | apply pw_below_drewN | apply below_drew1 | refine below_set ?_ GE150.out) | exact HB.out)⟩
                · rw [if_neg c45] at H
                  have c45b0 : (!(a0_5 == 0) || (!(a0_6 == 0) || (!(a0_7 == 0)))) = false := by simpa using c45
                  clear c45
                  by_cases c47 : a0_8 = true
                  · subst c47
                    have H1 : (some false) = some r := by rw [if_pos rfl] at H; exact H
                    clear H
                    have H := H1
                    clear H1
                    obtain rfl := Option.some.inj H
                    have hcz48_0 : wc.cell? ⟨gb150, 0, none⟩ = some (.int .i64 a0_0) := (blk_cell BK150.out 0).trans rfl
                    have hcz48_1 : wc.cell? ⟨gb150, 1, none⟩ = some (.int .i64 a0_1) := (blk_cell BK150.out 1).trans rfl
                    have hcz48_2 : wc.cell? ⟨gb150, 2, none⟩ = some (.int .i64 a0_2) := (blk_cell BK150.out 2).trans rfl
                    have hcz48_3 : wc.cell? ⟨gb150, 3, none⟩ = some (.int .i64 a0_3) := (blk_cell BK150.out 3).trans rfl
                    have hcz48_4 : wc.cell? ⟨gb150, 4, none⟩ = some (.int .i64 a0_4) := (blk_cell BK150.out 4).trans rfl
                    have hcz48_5 : wc.cell? ⟨gb150, 5, none⟩ = some (.int .i64 a0_5) := (blk_cell BK150.out 5).trans rfl
                    have hcz48_6 : wc.cell? ⟨gb150, 6, none⟩ = some (.int .i64 a0_6) := (blk_cell BK150.out 6).trans rfl
                    have hcz48_7 : wc.cell? ⟨gb150, 7, none⟩ = some (.int .i64 a0_7) := (blk_cell BK150.out 7).trans rfl
                    have hcz48_8 : wc.cell? ⟨gb150, 8, none⟩ = some (.bool true) := (blk_cell BK150.out 8).trans rfl
                    have hcz48_9 : wc.cell? ⟨gb150, 9, none⟩ = some (.slice A0_9 l0_9.length c0_9) := (blk_cell BK150.out 9).trans rfl
                    have hcz48_10 : wc.cell? ⟨gb150, 10, none⟩ = some (.slice A0_10 l0_10.length c0_10) := (blk_cell BK150.out 10).trans rfl
                    have hfz48_0 := blk_frozen BK150.out 0
                    have hfz48_1 := blk_frozen BK150.out 1
                    have hfz48_2 := blk_frozen BK150.out 2
                    have hfz48_3 := blk_frozen BK150.out 3
                    have hfz48_4 := blk_frozen BK150.out 4
                    have hfz48_5 := blk_frozen BK150.out 5
                    have hfz48_6 := blk_frozen BK150.out 6
                    have hfz48_7 := blk_frozen BK150.out 7
                    have hfz48_8 := blk_frozen BK150.out 8
                    have hfz48_9 := blk_frozen BK150.out 9
                    have hfz48_10 := blk_frozen BK150.out 10
                    go_wp2
                    go_ret
                    exact ⟨by first | rfl | (simp [errW_none, errW_some] <;> rfl) | (simp [*, errW_none, errW_some] <;> rfl), by repeat (first | (with_reducible first | exact HB.out | apply below_alloc | apply pw_below_drewN | apply below_drew1 | refine below_set ?_ GE150.out) | exact HB.out)⟩
                  · replace c47 := Bool.eq_false_iff.mpr c47
                    subst c47
                    have H1 : (some true) = some r := by rw [if_neg (show ¬ (false = true) by decide)] at H; exact H
                    clear H
                    have H := H1
                    clear H1
                    obtain rfl := Option.some.inj H
                    have hcz49_0 : wc.cell? ⟨gb150, 0, none⟩ = some (.int .i64 a0_0) := (blk_cell BK150.out 0).trans rfl
                    have hcz49_1 : wc.cell? ⟨gb150, 1, none⟩ = some (.int .i64 a0_1) := (blk_cell BK150.out 1).trans rfl
                    have hcz49_2 : wc.cell? ⟨gb150, 2, none⟩ = some (.int .i64 a0_2) := (blk_cell BK150.out 2).trans rfl
                    have hcz49_3 : wc.cell? ⟨gb150, 3, none⟩ = some (.int .i64 a0_3) := (blk_cell BK150.out 3).trans rfl
                    have hcz49_4 : wc.cell? ⟨gb150, 4, none⟩ = some (.int .i64 a0_4) := (blk_cell BK150.out 4).trans rfl
                    have hcz49_5 : wc.cell? ⟨gb150, 5, none⟩ = some (.int .i64 a0_5) := (blk_cell BK150.out 5).trans rfl
                    have hcz49_6 : wc.cell? ⟨gb150, 6, none⟩ = some (.int .i64 a0_6) := (blk_cell BK150.out 6).trans rfl
                    have hcz49_7 : wc.cell? ⟨gb150, 7, none⟩ = some (.int .i64 a0_7) := (blk_cell BK150.out 7).trans rfl
                    have hcz49_8 : wc.cell? ⟨gb150, 8, none⟩ = some (.bool false) := (blk_cell BK150.out 8).trans rfl
                    have hcz49_9 : wc.cell? ⟨gb150, 9, none⟩ = some (.slice A0_9 l0_9.length c0_9) := (blk_cell BK150.out 9).trans rfl
                    have hcz49_10 : wc.cell? ⟨gb150, 10, none⟩ = some (.slice A0_10 l0_10.length c0_10) := (blk_cell BK150.out 10).trans rfl
                    have hfz49_0 := blk_frozen BK150.out 0
                    have hfz49_1 := blk_frozen BK150.out 1
                    have hfz49_2 := blk_frozen BK150.out 2
                    have hfz49_3 := blk_frozen BK150.out 3
                    have hfz49_4 := blk_frozen BK150.out 4
                    have hfz49_5 := blk_frozen BK150.out 5
                    have hfz49_6 := blk_frozen BK150.out 6
                    have hfz49_7 := blk_frozen BK150.out 7
                    have hfz49_8 := blk_frozen BK150.out 8
                    have hfz49_9 := blk_frozen BK150.out 9
                    have hfz49_10 := blk_frozen BK150.out 10
                    go_wp2
                    go_ret
                    exact ⟨by first | rfl | (simp [errW_none, errW_some] <;> rfl) | (simp [*, errW_none, errW_some] <;> rfl), by repeat (first | (with_reducible first | exact HB.out | apply below_alloc | apply pw_below_drewN | apply below_drew1 | refine below_set ?_ GE150.out) | exact HB.out)⟩
              · rw [if_neg c44] at H
                have c44b0 : (a0_4 == 0) = false := beq_eq_false_iff_ne.mpr c44
                have c44b1 : (a0_4 != 0) = true := bne_iff_ne.mpr c44
                obtain rfl := Option.some.inj H
                have hcz50_0 : wc.cell? ⟨gb150, 0, none⟩ = some (.int .i64 a0_0) := (blk_cell BK150.out 0).trans rfl
                have hcz50_1 : wc.cell? ⟨gb150, 1, none⟩ = some (.int .i64 a0_1) := (blk_cell BK150.out 1).trans rfl
                have hcz50_2 : wc.cell? ⟨gb150, 2, none⟩ = some (.int .i64 a0_2) := (blk_cell BK150.out 2).trans rfl
                have hcz50_3 : wc.cell? ⟨gb150, 3, none⟩ = some (.int .i64 a0_3) := (blk_cell BK150.out 3).trans rfl
                have hcz50_4 : wc.cell? ⟨gb150, 4, none⟩ = some (.int .i64 a0_4) := (blk_cell BK150.out 4).trans rfl
                have hcz50_5 : wc.cell? ⟨gb150, 5, none⟩ = some (.int .i64 a0_5) := (blk_cell BK150.out 5).trans rfl
                have hcz50_6 : wc.cell? ⟨gb150, 6, none⟩ = some (.int .i64 a0_6) := (blk_cell BK150.out 6).trans rfl
                have hcz50_7 : wc.cell? ⟨gb150, 7, none⟩ = some (.int .i64 a0_7) := (blk_cell BK150.out 7).trans rfl
                have hcz50_8 : wc.cell? ⟨gb150, 8, none⟩ = some (.bool a0_8) := (blk_cell BK150.out 8).trans rfl
                have hcz50_9 : wc.cell? ⟨gb150, 9, none⟩ = some (.slice A0_9 l0_9.length c0_9) := (blk_cell BK150.out 9).trans rfl
                have hcz50_10 : wc.cell? ⟨gb150, 10, none⟩ = some (.slice A0_10 l0_10.length c0_10) := (blk_cell BK150.out 10).trans rfl
                have hfz50_0 := blk_frozen BK150.out 0
                have hfz50_1 := blk_frozen BK150.out 1
                have hfz50_2 := blk_frozen BK150.out 2
                have hfz50_3 := blk_frozen BK150.out 3
                have hfz50_4 := blk_frozen BK150.out 4
                have hfz50_5 := blk_frozen BK150.out 5
                have hfz50_6 := blk_frozen BK150.out 6
                have hfz50_7 := blk_frozen BK150.out 7
                have hfz50_8 := blk_frozen BK150.out 8
                have hfz50_9 := blk_frozen BK150.out 9
                have hfz50_10 := blk_frozen BK150.out 10
                go_wp2
                go_ret
                exact ⟨by first | rfl | (simp [errW_none, errW_some] <;> rfl) | (simp [*, errW_none, errW_some] <;> rfl), by repeat (first | (with_reducible first | exact HB.out | apply below_alloc | apply pw_below_drewN | apply below_drew1 | refine below_set ?_ GE150.out) | exact HB.out)⟩
          · rw [if_neg c39] at H
            have c39b0 : (a0_0 == 3) = false := beq_eq_false_iff_ne.mpr c39
            have c39b1 : (a0_0 != 3) = true := bne_iff_ne.mpr c39
            by_cases c51 : a0_0 = 4
            · rw [if_pos c51] at H
              have c51b0 : (a0_0 == 4) = true := beq_iff_eq.mpr c51
              have c51b1 : (a0_0 != 4) = false := bne_eq_false_iff_eq.mpr c51
              clear c51
              by_cases c52 : a0_0 = 1
              · rw [if_pos c52] at H
                have c52b0 : (a0_0 == 1) = true := beq_iff_eq.mpr c52
                have c52b1 : (a0_0 != 1) = false := bne_eq_false_iff_eq.mpr c52
                clear c52
                by_cases c53 : a0_8 = true
                · subst c53
                  have H1 : (some false) = some r := by rw [if_pos rfl] at H; exact H
                  clear H
                  have H := H1
                  clear H1
                  obtain rfl := Option.some.inj H
                  have hcz54_0 : wc.cell? ⟨gb150, 0, none⟩ = some (.int .i64 a0_0) := (blk_cell BK150.out 0).trans rfl
                  have hcz54_1 : wc.cell? ⟨gb150, 1, none⟩ = some (.int .i64 a0_1) := (blk_cell BK150.out 1).trans rfl
                  have hcz54_2 : wc.cell? ⟨gb150, 2, none⟩ = some (.int .i64 a0_2) := (blk_cell BK150.out 2).trans rfl
                  have hcz54_3 : wc.cell? ⟨gb150, 3, none⟩ = some (.int .i64 a0_3) := (blk_cell BK150.out 3).trans rfl
                  have hcz54_4 : wc.cell? ⟨gb150, 4, none⟩ = some (.int .i64 a0_4) := (blk_cell BK150.out 4).trans rfl
                  have hcz54_5 : wc.cell? ⟨gb150, 5, none⟩ = some (.int .i64 a0_5) := (blk_cell BK150.out 5).trans rfl
                  have hcz54_6 : wc.cell? ⟨gb150, 6, none⟩ = some (.int .i64 a0_6) := (blk_cell BK150.out 6).trans rfl
                  have hcz54_7 : wc.cell? ⟨gb150, 7, none⟩ = some (.int .i64 a0_7) := (blk_cell BK150.out 7).trans rfl
                  have hcz54_8 : wc.cell? ⟨gb150, 8, none⟩ = some (.bool true) := (blk_cell BK150.out 8).trans rfl
                  have hcz54_9 : wc.cell? ⟨gb150, 9, none⟩ = some (.slice A0_9 l0_9.length c0_9) := (blk_cell BK150.out 9).trans rfl
                  have hcz54_10 : wc.cell? ⟨gb150, 10, none⟩ = some (.slice A0_10 l0_10.length c0_10) := (blk_cell BK150.out 10).trans rfl
                  have hfz54_0 := blk_frozen BK150.out 0
                  have hfz54_1 := blk_frozen BK150.out 1
                  have hfz54_2 := blk_frozen BK150.out 2
                  have hfz54_3 := blk_frozen BK150.out 3
                  have hfz54_4 := blk_frozen BK150.out 4
                  have hfz54_5 := blk_frozen BK150.out 5
                  have hfz54_6 := blk_frozen BK150.out 6
                  have hfz54_7 := blk_frozen BK150.out 7
                  have hfz54_8 := blk_frozen BK150.out 8
                  have hfz54_9 := blk_frozen BK150.out 9
                  have hfz54_10 := blk_frozen BK150.out 10
                  go_wp2
                  go_ret
                  exact ⟨by first | rfl | (simp [errW_none, errW_some] <;> rfl) | (simp [*, errW_none, errW_some] <;> rfl), by repeat (first | (with_reducible first | exact HB.out | apply below_alloc | apply pw_below_drewN | apply below_drew1 | refine below_set ?_ GE150.out) | exact HB.out)⟩
                · replace c53 := Bool.eq_false_iff.mpr c53
                  subst c53
                  have H1 : (if (l0_9.length : Int) = 0 then (some ((l0_10.length : Int) == 0)) else (some false)) = some r := by rw [if_neg (show ¬ (false = true) by decide)] at H; exact H
                  clear H
                  have H := H1
                  clear H1
                  by_cases c55 : (l0_9.length : Int) = 0
                  · rw [if_pos c55] at H
                    have c55b0 : ((l0_9.length : Int) == 0) = true := beq_iff_eq.mpr c55
                    have c55b1 : ((l0_9.length : Int) != 0) = false := bne_eq_false_iff_eq.mpr c55
                    clear c55
                    obtain rfl := Option.some.inj H
                    have hcz56_0 : wc.cell? ⟨gb150, 0, none⟩ = some (.int .i64 a0_0) := (blk_cell BK150.out 0).trans rfl
                    have hcz56_1 : wc.cell? ⟨gb150, 1, none⟩ = some (.int .i64 a0_1) := (blk_cell BK150.out 1).trans rfl
                    have hcz56_2 : wc.cell? ⟨gb150, 2, none⟩ = some (.int .i64 a0_2) := (blk_cell BK150.out 2).trans rfl
                    have hcz56_3 : wc.cell? ⟨gb150, 3, none⟩ = some (.int .i64 a0_3) := (blk_cell BK150.out 3).trans rfl
                    have hcz56_4 : wc.cell? ⟨gb150, 4, none⟩ = some (.int .i64 a0_4) := (blk_cell BK150.out 4).trans rfl
                    have hcz56_5 : wc.cell? ⟨gb150, 5, none⟩ = some (.int .i64 a0_5) := (blk_cell BK150.out 5).trans rfl
                    have hcz56_6 : wc.cell? ⟨gb150, 6, none⟩ = some (.int .i64 a0_6) := (blk_cell BK150.out 6).trans rfl
                    have hcz56_7 : wc.cell? ⟨gb150, 7, none⟩ = some (.int .i64 a0_7) := (blk_cell BK150.out 7).trans rfl
                    have hcz56_8 : wc.cell? ⟨gb150, 8, none⟩ = some (.bool false) := (blk_cell BK150.out 8).trans rfl
                    have hcz56_9 : wc.cell? ⟨gb150, 9, none⟩ = some (.slice A0_9 l0_9.length c0_9) := (blk_cell BK150.out 9).trans rfl
                    have hcz56_10 : wc.cell? ⟨gb150, 10, none⟩ = some (.slice A0_10 l0_10.length c0_10) := (blk_cell BK150.out 10).trans rfl
                    have hfz56_0 := blk_frozen BK150.out 0
                    have hfz56_1 := blk_frozen BK150.out 1
                    have hfz56_2 := blk_frozen BK150.out 2
                    have hfz56_3 := blk_frozen BK150.out 3
                    have hfz56_4 := blk_frozen BK150.out 4
                    have hfz56_5 := blk_frozen BK150.out 5
                    have hfz56_6 := blk_frozen BK150.out 6
                    have hfz56_7 := blk_frozen BK150.out 7
                    have hfz56_8 := blk_frozen BK150.out 8
                    have hfz56_9 := blk_frozen BK150.out 9
                    have hfz56_10 := blk_frozen BK150.out 10
                    go_wp2
                    go_ret
                    exact ⟨by first | rfl | (simp [errW_none, errW_some] <;> rfl) | (simp [*, errW_none, errW_some] <;> rfl), by repeat (first | (with_reducible first | exact HB.out | apply below_alloc | apply pw_below_drewN | apply below_drew1 | refine below_set ?_ GE150.out) | exact HB.out)⟩
                  · rw [if_neg c55] at H
                    have c55b0 : ((l0_9.length : Int) == 0) = false := beq_eq_false_iff_ne.mpr c55
                    have c55b1 : ((l0_9.length : Int) != 0) = true := bne_iff_ne.mpr c55
                    have c55b2 : ¬ (l0_9 = []) := fun h_ => c55 (by rw [h_]; rfl)
                    obtain rfl := Option.some.inj H
                    have hcz57_0 : wc.cell? ⟨gb150, 0, none⟩ = some (.int .i64 a0_0) := (blk_cell BK150.out 0).trans rfl
                    have hcz57_1 : wc.cell? ⟨gb150, 1, none⟩ = some (.int .i64 a0_1) := (blk_cell BK150.out 1).trans rfl
                    have hcz57_2 : wc.cell? ⟨gb150, 2, none⟩ = some (.int .i64 a0_2) := (blk_cell BK150.out 2).trans rfl
                    have hcz57_3 : wc.cell? ⟨gb150, 3, none⟩ = some (.int .i64 a0_3) := (blk_cell BK150.out 3).trans rfl
                    have hcz57_4 : wc.cell? ⟨gb150, 4, none⟩ = some (.int .i64 a0_4) := (blk_cell BK150.out 4).trans rfl
                    have hcz57_5 : wc.cell? ⟨gb150, 5, none⟩ = some (.int .i64 a0_5) := (blk_cell BK150.out 5).trans rfl
                    have hcz57_6 : wc.cell? ⟨gb150, 6, none⟩ = some (.int .i64 a0_6) := (blk_cell BK150.out 6).trans rfl
                    have hcz57_7 : wc.cell? ⟨gb150, 7, none⟩ = some (.int .i64 a0_7) := (blk_cell BK150.out 7).trans rfl
                    have hcz57_8 : wc.cell? ⟨gb150, 8, none⟩ = some (.bool false) := (blk_cell BK150.out 8).trans rfl
                    have hcz57_9 : wc.cell? ⟨gb150, 9, none⟩ = some (.slice A0_9 l0_9.length c0_9) := (blk_cell BK150.out 9).trans rfl
                    have hcz57_10 : wc.cell? ⟨gb150, 10, none⟩ = some (.slice A0_10 l0_10.length c0_10) := (blk_cell BK150.out 10).trans rfl
                    have hfz57_0 := blk_frozen BK150.out 0
                    have hfz57_1 := blk_frozen BK150.out 1
                    have hfz57_2 := blk_frozen BK150.out 2
                    have hfz57_3 := blk_frozen BK150.out 3
                    have hfz57_4 := blk_frozen BK150.out 4
                    have hfz57_5 := blk_frozen BK150.out 5
                    have hfz57_6 := blk_frozen BK150.out 6
                    have hfz57_7 := blk_frozen BK150.out 7
                    have hfz57_8 := blk_frozen BK150.out 8
                    have hfz57_9 := blk_frozen BK150.out 9
                    have hfz57_10 := blk_frozen BK150.out 10
                    go_wp2
                    go_ret
                    exact ⟨by first | rfl | (simp [errW_none, errW_some] <;> rfl) | (simp [*, errW_none, errW_some] <;> rfl), by repeat (first | (with_reducible first | exact HB.out | apply below_alloc | apply pw_below_drewN | apply below_drew1 | refine below_set ?_ GE150.out) | exact HB.out)⟩
              · rw [if_neg c52] at H
                have c52b0 : (a0_0 == 1) = false := beq_eq_false_iff_ne.mpr c52
                have c52b1 : (a0_0 != 1) = true := bne_iff_ne.mpr c52
                by_cases c58 : a0_4 = 0
                · rw [if_pos c58] at H
                  have c58b0 : (a0_4 == 0) = true := beq_iff_eq.mpr c58
                  have c58b1 : (a0_4 != 0) = false := bne_eq_false_iff_eq.mpr c58
                  clear c58
                  by_cases c59 : (!(a0_5 == 0) || (!(a0_6 == 0) || (!(a0_7 == 0)))) = true
                  · rw [if_pos c59] at H
                    have c59b0 : (!(a0_5 == 0) || (!(a0_6 == 0) || (!(a0_7 == 0)))) = true := c59
                    clear c59
                    obtain rfl := Option.some.inj H
                    have hcz60_0 : wc.cell? ⟨gb150, 0, none⟩ = some (.int .i64 a0_0) := (blk_cell BK150.out 0).trans rfl
                    have hcz60_1 : wc.cell? ⟨gb150, 1, none⟩ = some (.int .i64 a0_1) := (blk_cell BK150.out 1).trans rfl
                    have hcz60_2 : wc.cell? ⟨gb150, 2, none⟩ = some (.int .i64 a0_2) := (blk_cell BK150.out 2).trans rfl
                    have hcz60_3 : wc.cell? ⟨gb150, 3, none⟩ = some (.int .i64 a0_3) := (blk_cell BK150.out 3).trans rfl
                    have hcz60_4 : wc.cell? ⟨gb150, 4, none⟩ = some (.int .i64 a0_4) := (blk_cell BK150.out 4).trans rfl
                    have hcz60_5 : wc.cell? ⟨gb150, 5, none⟩ = some (.int .i64 a0_5) := (blk_cell BK150.out 5).trans rfl
                    have hcz60_6 : wc.cell? ⟨gb150, 6, none⟩ = some (.int .i64 a0_6) := (blk_cell BK150.out 6).trans rfl
                    have hcz60_7 : wc.cell? ⟨gb150, 7, none⟩ = some (.int .i64 a0_7) := (blk_cell BK150.out 7).trans rfl
                    have hcz60_8 : wc.cell? ⟨gb150, 8, none⟩ = some (.bool a0_8) := (blk_cell BK150.out 8).trans rfl
                    have hcz60_9 : wc.cell? ⟨gb150, 9, none⟩ = some (.slice A0_9 l0_9.length c0_9) := (blk_cell BK150.out 9).trans rfl
                    have hcz60_10 : wc.cell? ⟨gb150, 10, none⟩ = some (.slice A0_10 l0_10.length c0_10) := (blk_cell BK150.out 10).trans rfl
                    have hfz60_0 := blk_frozen BK150.out 0
                    have hfz60_1 := blk_frozen BK150.out 1
                    have hfz60_2 := blk_frozen BK150.out 2
                    have hfz60_3 := blk_frozen BK150.out 3
                    have hfz60_4 := blk_frozen BK150.out 4
                    have hfz60_5 := blk_frozen BK150.out 5
                    have hfz60_6 := blk_frozen BK150.out 6
                    have hfz60_7 := blk_frozen BK150.out 7
                    have hfz60_8 := blk_frozen BK150.out 8
                    have hfz60_9 := blk_frozen BK150.out 9
                    have hfz60_10 := blk_frozen BK150.out 10
                    go_wp2
                    go_ret
                    exact ⟨by first | rfl | (simp [errW_none, errW_some] <;> rfl) | (simp [*, errW_none, errW_some] <;> rfl), by repeat (first | (with_reducible first | exact HB.out | apply below_alloc | apply pw_below_drewN | apply below_drew1 | refine below_set ?_ GE150.out) | exact HB.out)⟩
                  · rw [if_neg c59] at H
                    have c59b0 : (!(a0_5 == 0) || (!(a0_6 == 0) || (!(a0_7 == 0)))) = false := by simpa using c59
                    clear c59
                    by_cases c61 : a0_8 = true
                    · subst c61
                      have H1 : (some false) = some r := by rw [if_pos rfl] at H; exact H
                      clear H
                      have H := H1
                      clear H1
                      obtain rfl := Option.some.inj H
                      have hcz62_0 : wc.cell? ⟨gb150, 0, none⟩ = some (.int .i64 a0_0) := (blk_cell BK150.out 0).trans rfl
                      have hcz62_1 : wc.cell? ⟨gb150, 1, none⟩ = some (.int .i64 a0_1) := (blk_cell BK150.out 1).trans rfl
                      have hcz62_2 : wc.cell? ⟨gb150, 2, none⟩ = some (.int .i64 a0_2) := (blk_cell BK150.out 2).trans rfl
                      have hcz62_3 : wc.cell? ⟨gb150, 3, none⟩ = some (.int .i64 a0_3) := (blk_cell BK150.out 3).trans rfl
                      have hcz62_4 : wc.cell? ⟨gb150, 4, none⟩ = some (.int .i64 a0_4) := (blk_cell BK150.out 4).trans rfl
                      have hcz62_5 : wc.cell? ⟨gb150, 5, none⟩ = some (.int .i64 a0_5) := (blk_cell BK150.out 5).trans rfl
                      have hcz62_6 : wc.cell? ⟨gb150, 6, none⟩ = some (.int .i64 a0_6) := (blk_cell BK150.out 6).trans rfl
                      have hcz62_7 : wc.cell? ⟨gb150, 7, none⟩ = some (.int .i64 a0_7) := (blk_cell BK150.out 7).trans rfl
                      have hcz62_8 : wc.cell? ⟨gb150, 8, none⟩ = some (.bool true) := (blk_cell BK150.out 8).trans rfl
                      have hcz62_9 : wc.cell? ⟨gb150, 9, none⟩ = some (.slice A0_9 l0_9.length c0_9) := (blk_cell BK150.out 9).trans rfl
                      have hcz62_10 : wc.cell? ⟨gb150, 10, none⟩ = some (.slice A0_10 l0_10.length c0_10) := (blk_cell BK150.out 10).trans rfl
                      have hfz62_0 := blk_frozen BK150.out 0
                      have hfz62_1 := blk_frozen BK150.out 1
                      have hfz62_2 := blk_frozen BK150.out 2
                      have hfz62_3 := blk_frozen BK150.out 3
                      have hfz62_4 := blk_frozen BK150.out 4
                      have hfz62_5 := blk_frozen BK150.out 5
                      have hfz62_6 := blk_frozen BK150.out 6
                      have hfz62_7 := blk_frozen BK150.out 7
                      have hfz62_8 := blk_frozen BK150.out 8
                      have hfz62_9 := blk_frozen BK150.out 9
                      have hfz62_10 := blk_frozen BK150.out 10
                      go_wp2
                      go_ret
                      exact ⟨by first | rfl | (simp [errW_none, errW_some] <;> rfl) | (simp [*, errW_none, errW_some] <;> rfl), by repeat (first | (with_reducible first | exact HB.out | apply below_alloc | apply pw_below_drewN | apply below_drew1 | refine below_set ?_ GE150.out) | exact HB.out)⟩
                    · replace c61 := Bool.eq_false_iff.mpr c61
                      subst c61
                      have H1 : (if (l0_9.length : Int) = 0 then (some ((l0_10.length : Int) == 0)) else (some false)) = some r := by rw [if_neg (show ¬ (false = true) by decide)] at H; exact H
                      clear H
                      have H := H1
                      clear H1
                      by_cases c63 : (l0_9.length : Int) = 0
                      · rw [if_pos c63] at H
                        have c63b0 : ((l0_9.length : Int) == 0) = true := beq_iff_eq.mpr c63
                        have c63b1 : ((l0_9.length : Int) != 0) = false := bne_eq_false_iff_eq.mpr c63
                        clear c63
                        obtain rfl := Option.some.inj H
                        have hcz64_0 : wc.cell? ⟨gb150, 0, none⟩ = some (.int .i64 a0_0) := (blk_cell BK150.out 0).trans rfl
                        have hcz64_1 : wc.cell? ⟨gb150, 1, none⟩ = some (.int .i64 a0_1) := (blk_cell BK150.out 1).trans rfl
                        have hcz64_2 : wc.cell? ⟨gb150, 2, none⟩ = some (.int .i64 a0_2) := (blk_cell BK150.out 2).trans rfl
                        have hcz64_3 : wc.cell? ⟨gb150, 3, none⟩ = some (.int .i64 a0_3) := (blk_cell BK150.out 3).trans rfl
                        have hcz64_4 : wc.cell? ⟨gb150, 4, none⟩ = some (.int .i64 a0_4) := (blk_cell BK150.out 4).trans rfl
                        have hcz64_5 : wc.cell? ⟨gb150, 5, none⟩ = some (.int .i64 a0_5) := (blk_cell BK150.out 5).trans rfl
                        have hcz64_6 : wc.cell? ⟨gb150, 6, none⟩ = some (.int .i64 a0_6) := (blk_cell BK150.out 6).trans rfl
                        have hcz64_7 : wc.cell? ⟨gb150, 7, none⟩ = some (.int .i64 a0_7) := (blk_cell BK150.out 7).trans rfl
                        have hcz64_8 : wc.cell? ⟨gb150, 8, none⟩ = some (.bool false) := (blk_cell BK150.out 8).trans rfl
                        have hcz64_9 : wc.cell? ⟨gb150, 9, none⟩ = some (.slice A0_9 l0_9.length c0_9) := (blk_cell BK150.out 9).trans rfl
                        have hcz64_10 : wc.cell? ⟨gb150, 10, none⟩ = some (.slice A0_10 l0_10.length c0_10) := (blk_cell BK150.out 10).trans rfl
                        have hfz64_0 := blk_frozen BK150.out 0
                        have hfz64_1 := blk_frozen BK150.out 1
                        have hfz64_2 := blk_frozen BK150.out 2
                        have hfz64_3 := blk_frozen BK150.out 3
                        have hfz64_4 := blk_frozen BK150.out 4
                        have hfz64_5 := blk_frozen BK150.out 5
                        have hfz64_6 := blk_frozen BK150.out 6
                        have hfz64_7 := blk_frozen BK150.out 7
                        have hfz64_8 := blk_frozen BK150.out 8
                        have hfz64_9 := blk_frozen BK150.out 9
                        have hfz64_10 := blk_frozen BK150.out 10
                        go_wp2
                        go_ret
                        exact ⟨by first | rfl | (simp [errW_none, errW_some] <;> rfl) | (simp [*, errW_none, errW_some] <;> rfl), by repeat (first | (with_reducible first | exact HB.out | apply below_alloc | apply pw_below_drewN | apply below_drew1 | refine below_set ?_ GE150.out) | exact HB.out)⟩
                      · rw [if_neg c63] at H
                        have c63b0 : ((l0_9.length : Int) == 0) = false := beq_eq_false_iff_ne.mpr c63
                        have c63b1 : ((l0_9.length : Int) != 0) = true := bne_iff_ne.mpr c63
                        have c63b2 : ¬ (l0_9 = []) := fun h_ => c63 (by rw [h_]; rfl)
                        obtain rfl := Option.some.inj H
                        have hcz65_0 : wc.cell? ⟨gb150, 0, none⟩ = some (.int .i64 a0_0) := (blk_cell BK150.out 0).trans rfl
                        have hcz65_1 : wc.cell? ⟨gb150, 1, none⟩ = some (.int .i64 a0_1) := (blk_cell BK150.out 1).trans rfl
                        have hcz65_2 : wc.cell? ⟨gb150, 2, none⟩ = some (.int .i64 a0_2) := (blk_cell BK150.out 2).trans rfl
                        have hcz65_3 : wc.cell? ⟨gb150, 3, none⟩ = some (.int .i64 a0_3) := (blk_cell BK150.out 3).trans rfl
                        have hcz65_4 : wc.cell? ⟨gb150, 4, none⟩ = some (.int .i64 a0_4) := (blk_cell BK150.out 4).trans rfl
                        have hcz65_5 : wc.cell? ⟨gb150, 5, none⟩ = some (.int .i64 a0_5) := (blk_cell BK150.out 5).trans rfl
                        have hcz65_6 : wc.cell? ⟨gb150, 6, none⟩ = some (.int .i64 a0_6) := (blk_cell BK150.out 6).trans rfl
                        have hcz65_7 : wc.cell? ⟨gb150, 7, none⟩ = some (.int .i64 a0_7) := (blk_cell BK150.out 7).trans rfl
                        have hcz65_8 : wc.cell? ⟨gb150, 8, none⟩ = some (.bool false) := (blk_cell BK150.out 8).trans rfl
                        have hcz65_9 : wc.cell? ⟨gb150, 9, none⟩ = some (.slice A0_9 l0_9.length c0_9) := (blk_cell BK150.out 9).trans rfl
                        have hcz65_10 : wc.cell? ⟨gb150, 10, none⟩ = some (.slice A0_10 l0_10.length c0_10) := (blk_cell BK150.out 10).trans rfl
                        have hfz65_0 := blk_frozen BK150.out 0
                        have hfz65_1 := blk_frozen BK150.out 1
                        have hfz65_2 := blk_frozen BK150.out 2
                        have hfz65_3 := blk_frozen BK150.out 3
                        have hfz65_4 := blk_frozen BK150.out 4
                        have hfz65_5 := blk_frozen BK150.out 5
                        have hfz65_6 := blk_frozen BK150.out 6
                        have hfz65_7 := blk_frozen BK150.out 7
                        have hfz65_8 := blk_frozen BK150.out 8
                        have hfz65_9 := blk_frozen BK150.out 9
                        have hfz65_10 := blk_frozen BK150.out 10
                        go_wp2
                        go_ret
                        exact ⟨by first | rfl | (simp [errW_none, errW_some] <;> rfl) | (simp [*, errW_none, errW_some] <;> rfl), by repeat (first | (with_reducible first | exact HB.out | apply below_alloc | apply pw_below_drewN | apply below_drew1 | refine below_set ?_ GE150.out) | exact HB.out)⟩
                · rw [if_neg c58] at H
                  have c58b0 : (a0_4 == 0) = false := beq_eq_false_iff_ne.mpr c58
                  have c58b1 : (a0_4 != 0) = true := bne_iff_ne.mpr c58
                  obtain rfl := Option.some.inj H
                  have hcz66_0 : wc.cell? ⟨gb150, 0, none⟩ = some (.int .i64 a0_0) := (blk_cell BK150.out 0).trans rfl
                  have hcz66_1 : wc.cell? ⟨gb150, 1, none⟩ = some (.int .i64 a0_1) := (blk_cell BK150.out 1).trans rfl
                  have hcz66_2 : wc.cell? ⟨gb150, 2, none⟩ = some (.int .i64 a0_2) := (blk_cell BK150.out 2).trans rfl
                  have hcz66_3 : wc.cell? ⟨gb150, 3, none⟩ = some (.int .i64 a0_3) := (blk_cell BK150.out 3).trans rfl
                  have hcz66_4 : wc.cell? ⟨gb150, 4, none⟩ = some (.int .i64 a0_4) := (blk_cell BK150.out 4).trans rfl
                  have hcz66_5 : wc.cell? ⟨gb150, 5, none⟩ = some (.int .i64 a0_5) := (blk_cell BK150.out 5).trans rfl
                  have hcz66_6 : wc.cell? ⟨gb150, 6, none⟩ = some (.int .i64 a0_6) := (blk_cell BK150.out 6).trans rfl
                  have hcz66_7 : wc.cell? ⟨gb150, 7, none⟩ = some (.int .i64 a0_7) := (blk_cell BK150.out 7).trans rfl
                  have hcz66_8 : wc.cell? ⟨gb150, 8, none⟩ = some (.bool a0_8) := (blk_cell BK150.out 8).trans rfl
                  have hcz66_9 : wc.cell? ⟨gb150, 9, none⟩ = some (.slice A0_9 l0_9.length c0_9) := (blk_cell BK150.out 9).trans rfl
                  have hcz66_10 : wc.cell? ⟨gb150, 10, none⟩ = some (.slice A0_10 l0_10.length c0_10) := (blk_cell BK150.out 10).trans rfl
                  have hfz66_0 := blk_frozen BK150.out 0
                  have hfz66_1 := blk_frozen BK150.out 1
                  have hfz66_2 := blk_frozen BK150.out 2
                  have hfz66_3 := blk_frozen BK150.out 3
                  have hfz66_4 := blk_frozen BK150.out 4
                  have hfz66_5 := blk_frozen BK150.out 5
                  have hfz66_6 := blk_frozen BK150.out 6
                  have hfz66_7 := blk_frozen BK150.out 7
                  have hfz66_8 := blk_frozen BK150.out 8
                  have hfz66_9 := blk_frozen BK150.out 9
                  have hfz66_10 := blk_frozen BK150.out 10
                  go_wp2
                  go_ret
                  exact ⟨by first | rfl | (simp [errW_none, errW_some] <;> rfl) | (simp [*, errW_none, errW_some] <;> rfl), by repeat (first | (with_reducible first | exact HB.out | apply below_alloc | apply pw_below_drewN | apply below_drew1 | refine below_set ?_ GE150.out) | exact HB.out)⟩
            · rw [if_neg c51] at H
              have c51b0 : (a0_0 == 4) = false := beq_eq_false_iff_ne.mpr c51
              have c51b1 : (a0_0 != 4) = true := bne_iff_ne.mpr c51
              by_cases c67 : a0_0 = 5
              · rw [if_pos c67] at H
                have c67b0 : (a0_0 == 5) = true := beq_iff_eq.mpr c67
                have c67b1 : (a0_0 != 5) = false := bne_eq_false_iff_eq.mpr c67
                clear c67
                by_cases c68 : a0_3 = 0
                · rw [if_pos c68] at H
                  have c68b0 : (a0_3 == 0) = true := beq_iff_eq.mpr c68
                  have c68b1 : (a0_3 != 0) = false := bne_eq_false_iff_eq.mpr c68
                  clear c68
                  by_cases c69 : a0_0 = 1
                  · rw [if_pos c69] at H
                    have c69b0 : (a0_0 == 1) = true := beq_iff_eq.mpr c69
                    have c69b1 : (a0_0 != 1) = false := bne_eq_false_iff_eq.mpr c69
                    clear c69
                    by_cases c70 : a0_8 = true
                    · subst c70
                      have H1 : (some false) = some r := by rw [if_pos rfl] at H; exact H
                      clear H
                      have H := H1
                      clear H1
                      obtain rfl := Option.some.inj H
                      have hcz71_0 : wc.cell? ⟨gb150, 0, none⟩ = some (.int .i64 a0_0) := (blk_cell BK150.out 0).trans rfl
                      have hcz71_1 : wc.cell? ⟨gb150, 1, none⟩ = some (.int .i64 a0_1) := (blk_cell BK150.out 1).trans rfl
                      have hcz71_2 : wc.cell? ⟨gb150, 2, none⟩ = some (.int .i64 a0_2) := (blk_cell BK150.out 2).trans rfl
                      have hcz71_3 : wc.cell? ⟨gb150, 3, none⟩ = some (.int .i64 a0_3) := (blk_cell BK150.out 3).trans rfl
                      have hcz71_4 : wc.cell? ⟨gb150, 4, none⟩ = some (.int .i64 a0_4) := (blk_cell BK150.out 4).trans rfl
                      have hcz71_5 : wc.cell? ⟨gb150, 5, none⟩ = some (.int .i64 a0_5) := (blk_cell BK150.out 5).trans rfl
                      have hcz71_6 : wc.cell? ⟨gb150, 6, none⟩ = some (.int .i64 a0_6) := (blk_cell BK150.out 6).trans rfl
                      have hcz71_7 : wc.cell? ⟨gb150, 7, none⟩ = some (.int .i64 a0_7) := (blk_cell BK150.out 7).trans rfl
                      have hcz71_8 : wc.cell? ⟨gb150, 8, none⟩ = some (.bool true) := (blk_cell BK150.out 8).trans rfl
                      have hcz71_9 : wc.cell? ⟨gb150, 9, none⟩ = some (.slice A0_9 l0_9.length c0_9) := (blk_cell BK150.out 9).trans rfl
                      have hcz71_10 : wc.cell? ⟨gb150, 10, none⟩ = some (.slice A0_10 l0_10.length c0_10) := (blk_cell BK150.out 10).trans rfl
                      have hfz71_0 := blk_frozen BK150.out 0
                      have hfz71_1 := blk_frozen BK150.out 1
                      have hfz71_2 := blk_frozen BK150.out 2
                      have hfz71_3 := blk_frozen BK150.out 3
                      have hfz71_4 := blk_frozen BK150.out 4
                      have hfz71_5 := blk_frozen BK150.out 5
                      have hfz71_6 := blk_frozen BK150.out 6
                      have hfz71_7 := blk_frozen BK150.out 7
                      have hfz71_8 := blk_frozen BK150.out 8
                      have hfz71_9 := blk_frozen BK150.out 9
                      have hfz71_10 := blk_frozen BK150.out 10
                      go_wp2
                      go_ret
                      exact ⟨by first | rfl | (simp [errW_none, errW_some] <;> rfl) | (simp [*, errW_none, errW_some] <;> rfl), by repeat (first | (with_reducible first | exact HB.out | apply below_alloc | apply pw_below_drewN | apply below_drew1 | refine below_set ?_ GE150.out) | exact HB.out)⟩
                    · replace c70 := Bool.eq_false_iff.mpr c70
                      subst c70
                      have H1 : (if (l0_9.length : Int) = 0 then (some ((l0_10.length : Int) == 0)) else (some false)) = some r := by rw [if_neg (show ¬ (false = true) by decide)] at H; exact H
                      clear H
                      have H := H1
                      clear H1
                      by_cases c72 : (l0_9.length : Int) = 0
                      · rw [if_pos c72] at H
                        have c72b0 : ((l0_9.length : Int) == 0) = true := beq_iff_eq.mpr c72
                        have c72b1 : ((l0_9.length : Int) != 0) = false := bne_eq_false_iff_eq.mpr c72
                        clear c72
                        obtain rfl := Option.some.inj H
                        have hcz73_0 : wc.cell? ⟨gb150, 0, none⟩ = some (.int .i64 a0_0) := (blk_cell BK150.out 0).trans rfl
                        have hcz73_1 : wc.cell? ⟨gb150, 1, none⟩ = some (.int .i64 a0_1) := (blk_cell BK150.out 1).trans rfl
                        have hcz73_2 : wc.cell? ⟨gb150, 2, none⟩ = some (.int .i64 a0_2) := (blk_cell BK150.out 2).trans rfl
                        have hcz73_3 : wc.cell? ⟨gb150, 3, none⟩ = some (.int .i64 a0_3) := (blk_cell BK150.out 3).trans rfl
                        have hcz73_4 : wc.cell? ⟨gb150, 4, none⟩ = some (.int .i64 a0_4) := (blk_cell BK150.out 4).trans rfl
                        have hcz73_5 : wc.cell? ⟨gb150, 5, none⟩ = some (.int .i64 a0_5) := (blk_cell BK150.out 5).trans rfl
                        have hcz73_6 : wc.cell? ⟨gb150, 6, none⟩ = some (.int .i64 a0_6) := (blk_cell BK150.out 6).trans rfl
                        have hcz73_7 : wc.cell? ⟨gb150, 7, none⟩ = some (.int .i64 a0_7) := (blk_cell BK150.out 7).trans rfl
                        have hcz73_8 : wc.cell? ⟨gb150, 8, none⟩ = some (.bool false) := (blk_cell BK150.out 8).trans rfl
                        have hcz73_9 : wc.cell? ⟨gb150, 9, none⟩ = some (.slice A0_9 l0_9.length c0_9) := (blk_cell BK150.out 9).trans rfl
                        have hcz73_10 : wc.cell? ⟨gb150, 10, none⟩ = some (.slice A0_10 l0_10.length c0_10) := (blk_cell BK150.out 10).trans rfl
                        have hfz73_0 := blk_frozen BK150.out 0
                        have hfz73_1 := blk_frozen BK150.out 1
                        have hfz73_2 := blk_frozen BK150.out 2
                        have hfz73_3 := blk_frozen BK150.out 3
                        have hfz73_4 := blk_frozen BK150.out 4
                        have hfz73_5 := blk_frozen BK150.out 5
                        have hfz73_6 := blk_frozen BK150.out 6
                        have hfz73_7 := blk_frozen BK150.out 7
                        have hfz73_8 := blk_frozen BK150.out 8
                        have hfz73_9 := blk_frozen BK150.out 9
                        have hfz73_10 := blk_frozen BK150.out 10
                        go_wp2
                        go_ret
                        exact ⟨by first | rfl | (simp [errW_none, errW_some] <;> rfl) | (simp [*, errW_none, errW_some] <;> rfl), by repeat (first | (with_reducible first | exact HB.out | apply below_alloc | apply pw_below_drewN | apply below_drew1 | refine below_set ?_ GE150.out) | exact HB.out)⟩
                      · rw [if_neg c72] at H
                        have c72b0 : ((l0_9.length : Int) == 0) = false := beq_eq_false_iff_ne.mpr c72
                        have c72b1 : ((l0_9.length : Int) != 0) = true := bne_iff_ne.mpr c72
                        have c72b2 : ¬ (l0_9 = []) := fun h_ => c72 (by rw [h_]; rfl)
                        obtain rfl := Option.some.inj H
                        have hcz74_0 : wc.cell? ⟨gb150, 0, none⟩ = some (.int .i64 a0_0) := (blk_cell BK150.out 0).trans rfl
                        have hcz74_1 : wc.cell? ⟨gb150, 1, none⟩ = some (.int .i64 a0_1) := (blk_cell BK150.out 1).trans rfl
                        have hcz74_2 : wc.cell? ⟨gb150, 2, none⟩ = some (.int .i64 a0_2) := (blk_cell BK150.out 2).trans rfl
                        have hcz74_3 : wc.cell? ⟨gb150, 3, none⟩ = some (.int .i64 a0_3) := (blk_cell BK150.out 3).trans rfl
                        have hcz74_4 : wc.cell? ⟨gb150, 4, none⟩ = some (.int .i64 a0_4) := (blk_cell BK150.out 4).trans rfl
                        have hcz74_5 : wc.cell? ⟨gb150, 5, none⟩ = some (.int .i64 a0_5) := (blk_cell BK150.out 5).trans rfl
                        have hcz74_6 : wc.cell? ⟨gb150, 6, none⟩ = some (.int .i64 a0_6) := (blk_cell BK150.out 6).trans rfl
                        have hcz74_7 : wc.cell? ⟨gb150, 7, none⟩ = some (.int .i64 a0_7) := (blk_cell BK150.out 7).trans rfl
                        have hcz74_8 : wc.cell? ⟨gb150, 8, none⟩ = some (.bool false) := (blk_cell BK150.out 8).trans rfl
                        have hcz74_9 : wc.cell? ⟨gb150, 9, none⟩ = some (.slice A0_9 l0_9.length c0_9) := (blk_cell BK150.out 9).trans rfl
                        have hcz74_10 : wc.cell? ⟨gb150, 10, none⟩ = some (.slice A0_10 l0_10.length c0_10) := (blk_cell BK150.out 10).trans rfl
                        have hfz74_0 := blk_frozen BK150.out 0
                        have hfz74_1 := blk_frozen BK150.out 1
                        have hfz74_2 := blk_frozen BK150.out 2
                        have hfz74_3 := blk_frozen BK150.out 3
                        have hfz74_4 := blk_frozen BK150.out 4
                        have hfz74_5 := blk_frozen BK150.out 5
                        have hfz74_6 := blk_frozen BK150.out 6
                        have hfz74_7 := blk_frozen BK150.out 7
                        have hfz74_8 := blk_frozen BK150.out 8
                        have hfz74_9 := blk_frozen BK150.out 9
                        have hfz74_10 := blk_frozen BK150.out 10
                        go_wp2
                        go_ret
                        exact ⟨by first | rfl | (simp [errW_none, errW_some] <;> rfl) | (simp [*, errW_none, errW_some] <;> rfl), by repeat (first | (with_reducible first | exact HB.out | apply below_alloc | apply pw_below_drewN | apply below_drew1 | refine below_set ?_ GE150.out) | exact HB.out)⟩
                  · rw [if_neg c69] at H
                    have c69b0 : (a0_0 == 1) = false := beq_eq_false_iff_ne.mpr c69
                    have c69b1 : (a0_0 != 1) = true := bne_iff_ne.mpr c69
                    by_cases c75 : a0_4 = 0
                    · rw [if_pos c75] at H
                      have c75b0 : (a0_4 == 0) = true := beq_iff_eq.mpr c75
                      have c75b1 : (a0_4 != 0) = false := bne_eq_false_iff_eq.mpr c75
                      clear c75
                      by_cases c76 : (!(a0_5 == 0) || (!(a0_6 == 0) || (!(a0_7 == 0)))) = true
                      · rw [if_pos c76] at H
                        have c76b0 : (!(a0_5 == 0) || (!(a0_6 == 0) || (!(a0_7 == 0)))) = true := c76
                        clear c76
                        obtain rfl := Option.some.inj H
                        have hcz77_0 : wc.cell? ⟨gb150, 0, none⟩ = some (.int .i64 a0_0) := (blk_cell BK150.out 0).trans rfl
                        have hcz77_1 : wc.cell? ⟨gb150, 1, none⟩ = some (.int .i64 a0_1) := (blk_cell BK150.out 1).trans rfl
                        have hcz77_2 : wc.cell? ⟨gb150, 2, none⟩ = some (.int .i64 a0_2) := (blk_cell BK150.out 2).trans rfl
                        have hcz77_3 : wc.cell? ⟨gb150, 3, none⟩ = some (.int .i64 a0_3) := (blk_cell BK150.out 3).trans rfl
                        have hcz77_4 : wc.cell? ⟨gb150, 4, none⟩ = some (.int .i64 a0_4) := (blk_cell BK150.out 4).trans rfl
                        have hcz77_5 : wc.cell? ⟨gb150, 5, none⟩ = some (.int .i64 a0_5) := (blk_cell BK150.out 5).trans rfl
                        have hcz77_6 : wc.cell? ⟨gb150, 6, none⟩ = some (.int .i64 a0_6) := (blk_cell BK150.out 6).trans rfl
                        have hcz77_7 : wc.cell? ⟨gb150, 7, none⟩ = some (.int .i64 a0_7) := (blk_cell BK150.out 7).trans rfl
                        have hcz77_8 : wc.cell? ⟨gb150, 8, none⟩ = some (.bool a0_8) := (blk_cell BK150.out 8).trans rfl
                        have hcz77_9 : wc.cell? ⟨gb150, 9, none⟩ = some (.slice A0_9 l0_9.length c0_9) := (blk_cell BK150.out 9).trans rfl
                        have hcz77_10 : wc.cell? ⟨gb150, 10, none⟩ = some (.slice A0_10 l0_10.length c0_10) := (blk_cell BK150.out 10).trans rfl
                        have hfz77_0 := blk_frozen BK150.out 0
                        have hfz77_1 := blk_frozen BK150.out 1
                        have hfz77_2 := blk_frozen BK150.out 2
                        have hfz77_3 := blk_frozen BK150.out 3
                        have hfz77_4 := blk_frozen BK150.out 4
                        have hfz77_5 := blk_frozen BK150.out 5
                        have hfz77_6 := blk_frozen BK150.out 6
                        have hfz77_7 := blk_frozen BK150.out 7
                        have hfz77_8 := blk_frozen BK150.out 8
                        have hfz77_9 := blk_frozen BK150.out 9
                        have hfz77_10 := blk_frozen BK150.out 10
                        go_wp2
                        go_ret
                        exact ⟨by first | rfl | (simp [errW_none, errW_some] <;> rfl) | (simp [*, errW_none, errW_some] <;> rfl), by repeat (first | (with_reducible first | exact HB.out | apply below_alloc | apply pw_below_drewN | apply below_drew1 | refine below_set ?_ GE150.out) | exact HB.out)⟩
                      · rw [if_neg c76] at H
                        have c76b0 : (!(a0_5 == 0) || (!(a0_6 == 0) || (!(a0_7 == 0)))) = false := by simpa using c76
                        clear c76
                        by_cases c78 : a0_8 = true
                        · subst c78
                          have H1 : (some false) = some r := by rw [if_pos rfl] at H; exact H
                          clear H
                          have H := H1
                          clear H1
                          obtain rfl := Option.some.inj H
                          have hcz79_0 : wc.cell? ⟨gb150, 0, none⟩ = some (.int .i64 a0_0) := (blk_cell BK150.out 0).trans rfl
                          have hcz79_1 : wc.cell? ⟨gb150, 1, none⟩ = some (.int .i64 a0_1) := (blk_cell BK150.out 1).trans rfl
                          have hcz79_2 : wc.cell? ⟨gb150, 2, none⟩ = some (.int .i64 a0_2) := (blk_cell BK150.out 2).trans rfl
                          have hcz79_3 : wc.cell? ⟨gb150, 3, none⟩ = some (.int .i64 a0_3) := (blk_cell BK150.out 3).trans rfl
                          have hcz79_4 : wc.cell? ⟨gb150, 4, none⟩ = some (.int .i64 a0_4) := (blk_cell BK150.out 4).trans rfl
                          have hcz79_5 : wc.cell? ⟨gb150, 5, none⟩ = some (.int .i64 a0_5) := (blk_cell BK150.out 5).trans rfl
                          have hcz79_6 : wc.cell? ⟨gb150, 6, none⟩ = some (.int .i64 a0_6) := (blk_cell BK150.out 6).trans rfl
                          have hcz79_7 : wc.cell? ⟨gb150, 7, none⟩ = some (.int .i64 a0_7) := (blk_cell BK150.out 7).trans rfl
                          have hcz79_8 : wc.cell? ⟨gb150, 8, none⟩ = some (.bool true) := (blk_cell BK150.out 8).trans rfl
                          have hcz79_9 : wc.cell? ⟨gb150, 9, none⟩ = some (.slice A0_9 l0_9.length c0_9) := (blk_cell BK150.out 9).trans rfl
                          have hcz79_10 : wc.cell? ⟨gb150, 10, none⟩ = some (.slice A0_10 l0_10.length c0_10) := (blk_cell BK150.out 10).trans rfl
                          have hfz79_0 := blk_frozen BK150.out 0
                          have hfz79_1 := blk_frozen BK150.out 1
                          have hfz79_2 := blk_frozen BK150.out 2
                          have hfz79_3 := blk_frozen BK150.out 3
                          have hfz79_4 := blk_frozen BK150.out 4
                          have hfz79_5 := blk_frozen BK150.out 5
                          have hfz79_6 := blk_frozen BK150.out 6
                          have hfz79_7 := blk_frozen BK150.out 7
                          have hfz79_8 := blk_frozen BK150.out 8
                          have hfz79_9 := blk_frozen BK150.out 9
                          have hfz79_10 := blk_frozen BK150.out 10
                          go_wp2
                          go_ret
                          exact ⟨by first | rfl | (simp [errW_none, errW_some] <;> rfl) | (simp [*, errW_none, errW_some] <;> rfl), by repeat (first | (with_reducible first | exact HB.out | apply below_alloc | apply pw_below_drewN | apply below_drew1 | refine below_set ?_ GE150.out) | exact HB.out)⟩
                        · replace c78 := Bool.eq_false_iff.mpr c78
                          subst c78
                          have H1 : (if (l0_9.length : Int) = 0 then (some ((l0_10.length : Int) == 0)) else (some false)) = some r := by rw [if_neg (show ¬ (false = true) by decide)] at H; exact H
                          clear H
                          have H := H1
                          clear H1
                          by_cases c80 : (l0_9.length : Int) = 0
                          · rw [if_pos c80] at H
                            have c80b0 : ((l0_9.length : Int) == 0) = true := beq_iff_eq.mpr c80
                            have c80b1 : ((l0_9.length : Int) != 0) = false := bne_eq_false_iff_eq.mpr c80
                            clear c80
                            obtain rfl := Option.some.inj H
                            have hcz81_0 : wc.cell? ⟨gb150, 0, none⟩ = some (.int .i64 a0_0) := (blk_cell BK150.out 0).trans rfl
                            have hcz81_1 : wc.cell? ⟨gb150, 1, none⟩ = some (.int .i64 a0_1) := (blk_cell BK150.out 1).trans rfl
                            have hcz81_2 : wc.cell? ⟨gb150, 2, none⟩ = some (.int .i64 a0_2) := (blk_cell BK150.out 2).trans rfl
                            have hcz81_3 : wc.cell? ⟨gb150, 3, none⟩ = some (.int .i64 a0_3) := (blk_cell BK150.out 3).trans rfl
                            have hcz81_4 : wc.cell? ⟨gb150, 4, none⟩ = some (.int .i64 a0_4) := (blk_cell BK150.out 4).trans rfl
                            have hcz81_5 : wc.cell? ⟨gb150, 5, none⟩ = some (.int .i64 a0_5) := (blk_cell BK150.out 5).trans rfl
                            have hcz81_6 : wc.cell? ⟨gb150, 6, none⟩ = some (.int .i64 a0_6) := (blk_cell BK150.out 6).trans rfl
                            have hcz81_7 : wc.cell? ⟨gb150, 7, none⟩ = some (.int .i64 a0_7) := (blk_cell BK150.out 7).trans rfl
                            have hcz81_8 : wc.cell? ⟨gb150, 8, none⟩ = some (.bool false) := (blk_cell BK150.out 8).trans rfl
                            have hcz81_9 : wc.cell? ⟨gb150, 9, none⟩ = some (.slice A0_9 l0_9.length c0_9) := (blk_cell BK150.out 9).trans rfl
                            have hcz81_10 : wc.cell? ⟨gb150, 10, none⟩ = some (.slice A0_10 l0_10.length c0_10) := (blk_cell BK150.out 10).trans rfl
                            have hfz81_0 := blk_frozen BK150.out 0
                            have hfz81_1 := blk_frozen BK150.out 1
                            have hfz81_2 := blk_frozen BK150.out 2
                            have hfz81_3 := blk_frozen BK150.out 3
                            have hfz81_4 := blk_frozen BK150.out 4
                            have hfz81_5 := blk_frozen BK150.out 5
                            have hfz81_6 := blk_frozen BK150.out 6
                            have hfz81_7 := blk_frozen BK150.out 7
                            have hfz81_8 := blk_frozen BK150.out 8
                            have hfz81_9 := blk_frozen BK150.out 9
                            have hfz81_10 := blk_frozen BK150.out 10
                            go_wp2
                            go_ret
                            exact ⟨by first | rfl | (simp [errW_none, errW_some] <;> rfl) | (simp [*, errW_none, errW_some] <;> rfl), by repeat (first | (with_reducible first | exact HB.out | apply below_alloc | apply pw_below_drewN | apply below_drew1 | refine below_set ?_ GE150.out) | exact HB.out)⟩
                          · rw [if_neg c80] at H
                            have c80b0 : ((l0_9.length : Int) == 0) = false := beq_eq_false_iff_ne.mpr c80
                            have c80b1 : ((l0_9.length : Int) != 0) = true := bne_iff_ne.mpr c80
                            have c80b2 : ¬ (l0_9 = []) := fun h_ => c80 (by rw [h_]; rfl)
                            obtain rfl := Option.some.inj H
                            have hcz82_0 : wc.cell? ⟨gb150, 0, none⟩ = some (.int .i64 a0_0) := (blk_cell BK150.out 0).trans rfl
                            have hcz82_1 : wc.cell? ⟨gb150, 1, none⟩ = some (.int .i64 a0_1) := (blk_cell BK150.out 1).trans rfl
                            have hcz82_2 : wc.cell? ⟨gb150, 2, none⟩ = some (.int .i64 a0_2) := (blk_cell BK150.out 2).trans rfl
                            have hcz82_3 : wc.cell? ⟨gb150, 3, none⟩ = some (.int .i64 a0_3) := (blk_cell BK150.out 3).trans rfl
                            have hcz82_4 : wc.cell? ⟨gb150, 4, none⟩ = some (.int .i64 a0_4) := (blk_cell BK150.out 4).trans rfl
                            have hcz82_5 : wc.cell? ⟨gb150, 5, none⟩ = some (.int .i64 a0_5) := (blk_cell BK150.out 5).trans rfl
                            have hcz82_6 : wc.cell? ⟨gb150, 6, none⟩ = some (.int .i64 a0_6) := (blk_cell BK150.out 6).trans rfl
                            have hcz82_7 : wc.cell? ⟨gb150, 7, none⟩ = some (.int .i64 a0_7) := (blk_cell BK150.out 7).trans rfl
                            have hcz82_8 : wc.cell? ⟨gb150, 8, none⟩ = some (.bool false) := (blk_cell BK150.out 8).trans rfl
                            have hcz82_9 : wc.cell? ⟨gb150, 9, none⟩ = some (.slice A0_9 l0_9.length c0_9) := (blk_cell BK150.out 9).trans rfl
                            have hcz82_10 : wc.cell? ⟨gb150, 10, none⟩ = some (.slice A0_10 l0_10.length c0_10) := (blk_cell BK150.out 10).trans rfl
                            have hfz82_0 := blk_frozen BK150.out 0
                            have hfz82_1 := blk_frozen BK150.out 1
                            have hfz82_2 := blk_frozen BK150.out 2
                            have hfz82_3 := blk_frozen BK150.out 3
                            have hfz82_4 := blk_frozen BK150.out 4
                            have hfz82_5 := blk_frozen BK150.out 5
                            have hfz82_6 := blk_frozen BK150.out 6
                            have hfz82_7 := blk_frozen BK150.out 7
                            have hfz82_8 := blk_frozen BK150.out 8
                            have hfz82_9 := blk_frozen BK150.out 9
                            have hfz82_10 := blk_frozen BK150.out 10
                            go_wp2
                            go_ret
                            exact ⟨by first | rfl | (simp [errW_none, errW_some] <;> rfl) | (simp [*, errW_none, errW_some] <;> rfl), by repeat (first | (with_reducible first | exact HB.out | apply below_alloc | apply pw_below_drewN | apply below_drew1 | refine below_set ?_ GE150.out) | exact HB.out)⟩
                    · rw [if_neg c75] at H
                      have c75b0 : (a0_4 == 0) = false := beq_eq_false_iff_ne.mpr c75
                      have c75b1 : (a0_4 != 0) = true := bne_iff_ne.mpr c75
                      obtain rfl := Option.some.inj H
                      have hcz83_0 : wc.cell? ⟨gb150, 0, none⟩ = some (.int .i64 a0_0) := (blk_cell BK150.out 0).trans rfl
                      have hcz83_1 : wc.cell? ⟨gb150, 1, none⟩ = some (.int .i64 a0_1) := (blk_cell BK150.out 1).trans rfl
                      have hcz83_2 : wc.cell? ⟨gb150, 2, none⟩ = some (.int .i64 a0_2) := (blk_cell BK150.out 2).trans rfl
                      have hcz83_3 : wc.cell? ⟨gb150, 3, none⟩ = some (.int .i64 a0_3) := (blk_cell BK150.out 3).trans rfl
                      have hcz83_4 : wc.cell? ⟨gb150, 4, none⟩ = some (.int .i64 a0_4) := (blk_cell BK150.out 4).trans rfl
                      have hcz83_5 : wc.cell? ⟨gb150, 5, none⟩ = some (.int .i64 a0_5) := (blk_cell BK150.out 5).trans rfl
                      have hcz83_6 : wc.cell? ⟨gb150, 6, none⟩ = some (.int .i64 a0_6) := (blk_cell BK150.out 6).trans rfl
                      have hcz83_7 : wc.cell? ⟨gb150, 7, none⟩ = some (.int .i64 a0_7) := (blk_cell BK150.out 7).trans rfl
                      have hcz83_8 : wc.cell? ⟨gb150, 8, none⟩ = some (.bool a0_8) := (blk_cell BK150.out 8).trans rfl
                      have hcz83_9 : wc.cell? ⟨gb150, 9, none⟩ = some (.slice A0_9 l0_9.length c0_9) := (blk_cell BK150.out 9).trans rfl
                      have hcz83_10 : wc.cell? ⟨gb150, 10, none⟩ = some (.slice A0_10 l0_10.length c0_10) := (blk_cell BK150.out 10).trans rfl
                      have hfz83_0 := blk_frozen BK150.out 0
                      have hfz83_1 := blk_frozen BK150.out 1
                      have hfz83_2 := blk_frozen BK150.out 2
                      have hfz83_3 := blk_frozen BK150.out 3
                      have hfz83_4 := blk_frozen BK150.out 4
                      have hfz83_5 := blk_frozen BK150.out 5
                      have hfz83_6 := blk_frozen BK150.out 6
                      have hfz83_7 := blk_frozen BK150.out 7
                      have hfz83_8 := blk_frozen BK150.out 8
                      have hfz83_9 := blk_frozen BK150.out 9
                      have hfz83_10 := blk_frozen BK150.out 10
                      go_wp2
                      go_ret
                      exact ⟨by first | rfl | (simp [errW_none, errW_some] <;> rfl) | (simp [*, errW_none, errW_some] <;> rfl), by repeat (first | (with_reducible first | exact HB.out | apply below_alloc | apply pw_below_drewN | apply below_drew1 | refine below_set ?_ GE150.out) | exact HB.out)⟩
                · rw [if_neg c68] at H
                  have c68b0 : (a0_3 == 0) = false := beq_eq_false_iff_ne.mpr c68
                  have c68b1 : (a0_3 != 0) = true := bne_iff_ne.mpr c68
                  obtain rfl := Option.some.inj H
                  have hcz84_0 : wc.cell? ⟨gb150, 0, none⟩ = some (.int .i64 a0_0) := (blk_cell BK150.out 0).trans rfl
                  have hcz84_1 : wc.cell? ⟨gb150, 1, none⟩ = some (.int .i64 a0_1) := (blk_cell BK150.out 1).trans rfl
                  have hcz84_2 : wc.cell? ⟨gb150, 2, none⟩ = some (.int .i64 a0_2) := (blk_cell BK150.out 2).trans rfl
                  have hcz84_3 : wc.cell? ⟨gb150, 3, none⟩ = some (.int .i64 a0_3) := (blk_cell BK150.out 3).trans rfl
                  have hcz84_4 : wc.cell? ⟨gb150, 4, none⟩ = some (.int .i64 a0_4) := (blk_cell BK150.out 4).trans rfl
                  have hcz84_5 : wc.cell? ⟨gb150, 5, none⟩ = some (.int .i64 a0_5) := (blk_cell BK150.out 5).trans rfl
                  have hcz84_6 : wc.cell? ⟨gb150, 6, none⟩ = some (.int .i64 a0_6) := (blk_cell BK150.out 6).trans rfl
                  have hcz84_7 : wc.cell? ⟨gb150, 7, none⟩ = some (.int .i64 a0_7) := (blk_cell BK150.out 7).trans rfl
                  have hcz84_8 : wc.cell? ⟨gb150, 8, none⟩ = some (.bool a0_8) := (blk_cell BK150.out 8).trans rfl
                  have hcz84_9 : wc.cell? ⟨gb150, 9, none⟩ = some (.slice A0_9 l0_9.length c0_9) := (blk_cell BK150.out 9).trans rfl
                  have hcz84_10 : wc.cell? ⟨gb150, 10, none⟩ = some (.slice A0_10 l0_10.length c0_10) := (blk_cell BK150.out 10).trans rfl
                  have hfz84_0 := blk_frozen BK150.out 0
                  have hfz84_1 := blk_frozen BK150.out 1
                  have hfz84_2 := blk_frozen BK150.out 2
                  have hfz84_3 := blk_frozen BK150.out 3
                  have hfz84_4 := blk_frozen BK150.out 4
                  have hfz84_5 := blk_frozen BK150.out 5
                  have hfz84_6 := blk_frozen BK150.out 6
                  have hfz84_7 := blk_frozen BK150.out 7
                  have hfz84_8 := blk_frozen BK150.out 8
                  have hfz84_9 := blk_frozen BK150.out 9
                  have hfz84_10 := blk_frozen BK150.out 10
                  go_wp2
                  go_ret
                  exact ⟨by first | rfl | (simp [errW_none, errW_some] <;> rfl) | (simp [*, errW_none, errW_some] <;> rfl), by repeat (first | (with_reducible first | exact HB.out | apply below_alloc | apply pw_below_drewN | apply below_drew1 | refine below_set ?_ GE150.out) | exact HB.out)⟩
              · rw [if_neg c67] at H
                have c67b0 : (a0_0 == 5) = false := beq_eq_false_iff_ne.mpr c67
                have c67b1 : (a0_0 != 5) = true := bne_iff_ne.mpr c67
                by_cases c85 : a0_1 = 0
                · rw [if_pos c85] at H
                  have c85b0 : (a0_1 == 0) = true := beq_iff_eq.mpr c85
                  have c85b1 : (a0_1 != 0) = false := bne_eq_false_iff_eq.mpr c85
                  clear c85
                  by_cases c86 : a0_2 = 0
                  · rw [if_pos c86] at H
                    have c86b0 : (a0_2 == 0) = true := beq_iff_eq.mpr c86
                    have c86b1 : (a0_2 != 0) = false := bne_eq_false_iff_eq.mpr c86
                    clear c86
                    by_cases c87 : a0_3 = 0
                    · rw [if_pos c87] at H
                      have c87b0 : (a0_3 == 0) = true := beq_iff_eq.mpr c87
                      have c87b1 : (a0_3 != 0) = false := bne_eq_false_iff_eq.mpr c87
                      clear c87
                      by_cases c88 : a0_0 = 1
                      · rw [if_pos c88] at H
                        have c88b0 : (a0_0 == 1) = true := beq_iff_eq.mpr c88
                        have c88b1 : (a0_0 != 1) = false := bne_eq_false_iff_eq.mpr c88
                        clear c88
                        by_cases c89 : a0_8 = true
                        · subst c89
                          have H1 : (some false) = some r := by rw [if_pos rfl] at H; exact H
                          clear H
                          have H := H1
                          clear H1
                          obtain rfl := Option.some.inj H
                          have hcz90_0 : wc.cell? ⟨gb150, 0, none⟩ = some (.int .i64 a0_0) := (blk_cell BK150.out 0).trans rfl
                          have hcz90_1 : wc.cell? ⟨gb150, 1, none⟩ = some (.int .i64 a0_1) := (blk_cell BK150.out 1).trans rfl
                          have hcz90_2 : wc.cell? ⟨gb150, 2, none⟩ = some (.int .i64 a0_2) := (blk_cell BK150.out 2).trans rfl
                          have hcz90_3 : wc.cell? ⟨gb150, 3, none⟩ = some (.int .i64 a0_3) := (blk_cell BK150.out 3).trans rfl
                          have hcz90_4 : wc.cell? ⟨gb150, 4, none⟩ = some (.int .i64 a0_4) := (blk_cell BK150.out 4).trans rfl
                          have hcz90_5 : wc.cell? ⟨gb150, 5, none⟩ = some (.int .i64 a0_5) := (blk_cell BK150.out 5).trans rfl
                          have hcz90_6 : wc.cell? ⟨gb150, 6, none⟩ = some (.int .i64 a0_6) := (blk_cell BK150.out 6).trans rfl
                          have hcz90_7 : wc.cell? ⟨gb150, 7, none⟩ = some (.int .i64 a0_7) := (blk_cell BK150.out 7).trans rfl
                          have hcz90_8 : wc.cell? ⟨gb150, 8, none⟩ = some (.bool true) := (blk_cell BK150.out 8).trans rfl
                          have hcz90_9 : wc.cell? ⟨gb150, 9, none⟩ = some (.slice A0_9 l0_9.length c0_9) := (blk_cell BK150.out 9).trans rfl
                          have hcz90_10 : wc.cell? ⟨gb150, 10, none⟩ = some (.slice A0_10 l0_10.length c0_10) := (blk_cell BK150.out 10).trans rfl
                          have hfz90_0 := blk_frozen BK150.out 0
                          have hfz90_1 := blk_frozen BK150.out 1
                          have hfz90_2 := blk_frozen BK150.out 2
                          have hfz90_3 := blk_frozen BK150.out 3
                          have hfz90_4 := blk_frozen BK150.out 4
                          have hfz90_5 := blk_frozen BK150.out 5
                          have hfz90_6 := blk_frozen BK150.out 6
                          have hfz90_7 := blk_frozen BK150.out 7
                          have hfz90_8 := blk_frozen BK150.out 8
                          have hfz90_9 := blk_frozen BK150.out 9
                          have hfz90_10 := blk_frozen BK150.out 10
                          go_wp2
                          go_ret
                          exact ⟨by first | rfl | (simp [errW_none, errW_some] <;> rfl) | (simp [*, errW_none, errW_some] <;> rfl), by repeat (first | (with_reducible first | exact HB.out | apply below_alloc | apply pw_below_drewN | apply below_drew1 | refine below_set ?_ GE150.out) | exact HB.out)⟩
                        · replace c89 := Bool.eq_false_iff.mpr c89
                          subst c89
                          have H1 : (if (l0_9.length : Int) = 0 then (some ((l0_10.length : Int) == 0)) else (some false)) = some r := by rw [if_neg (show ¬ (false = true) by decide)] at H; exact H
                          clear H
                          have H := H1
                          clear H1
                          by_cases c91 : (l0_9.length : Int) = 0
                          · rw [if_pos c91] at H
                            have c91b0 : ((l0_9.length : Int) == 0) = true := beq_iff_eq.mpr c91
                            have c91b1 : ((l0_9.length : Int) != 0) = false := bne_eq_false_iff_eq.mpr c91
                            clear c91
                            obtain rfl := Option.some.inj H
                            have hcz92_0 : wc.cell? ⟨gb150, 0, none⟩ = some (.int .i64 a0_0) := (blk_cell BK150.out 0).trans rfl
                            have hcz92_1 : wc.cell? ⟨gb150, 1, none⟩ = some (.int .i64 a0_1) := (blk_cell BK150.out 1).trans rfl
                            have hcz92_2 : wc.cell? ⟨gb150, 2, none⟩ = some (.int .i64 a0_2) := (blk_cell BK150.out 2).trans rfl
                            have hcz92_3 : wc.cell? ⟨gb150, 3, none⟩ = some (.int .i64 a0_3) := (blk_cell BK150.out 3).trans rfl
                            have hcz92_4 : wc.cell? ⟨gb150, 4, none⟩ = some (.int .i64 a0_4) := (blk_cell BK150.out 4).trans rfl
                            have hcz92_5 : wc.cell? ⟨gb150, 5, none⟩ = some (.int .i64 a0_5) := (blk_cell BK150.out 5).trans rfl
                            have hcz92_6 : wc.cell? ⟨gb150, 6, none⟩ = some (.int .i64 a0_6) := (blk_cell BK150.out 6).trans rfl
                            have hcz92_7 : wc.cell? ⟨gb150, 7, none⟩ = some (.int .i64 a0_7) := (blk_cell BK150.out 7).trans rfl
                            have hcz92_8 : wc.cell? ⟨gb150, 8, none⟩ = some (.bool false) := (blk_cell BK150.out 8).trans rfl
                            have hcz92_9 : wc.cell? ⟨gb150, 9, none⟩ = some (.slice A0_9 l0_9.length c0_9) := (blk_cell BK150.out 9).trans rfl
                            have hcz92_10 : wc.cell? ⟨gb150, 10, none⟩ = some (.slice A0_10 l0_10.length c0_10) := (blk_cell BK150.out 10).trans rfl
                            have hfz92_0 := blk_frozen BK150.out 0
                            have hfz92_1 := blk_frozen BK150.out 1
                            have hfz92_2 := blk_frozen BK150.out 2
                            have hfz92_3 := blk_frozen BK150.out 3
                            have hfz92_4 := blk_frozen BK150.out 4
                            have hfz92_5 := blk_frozen BK150.out 5
                            have hfz92_6 := blk_frozen BK150.out 6
                            have hfz92_7 := blk_frozen BK150.out 7
                            have hfz92_8 := blk_frozen BK150.out 8
                            have hfz92_9 := blk_frozen BK150.out 9
                            have hfz92_10 := blk_frozen BK150.out 10
                            go_wp2
                            go_ret
                            exact ⟨by first | rfl | (simp [errW_none, errW_some] <;> rfl) | (simp [*, errW_none, errW_some] <;> rfl), by repeat (first | (with_reducible first | exact HB.out | apply below_alloc | apply pw_below_drewN | apply below_drew1 | refine below_set ?_ GE150.out) | exact HB.out)⟩
                          · rw [if_neg c91] at H
                            have c91b0 : ((l0_9.length : Int) == 0) = false := beq_eq_false_iff_ne.mpr c91
                            have c91b1 : ((l0_9.length : Int) != 0) = true := bne_iff_ne.mpr c91
                            have c91b2 : ¬ (l0_9 = []) := fun h_ => c91 (by rw [h_]; rfl)
                            obtain rfl := Option.some.inj H
                            have hcz93_0 : wc.cell? ⟨gb150, 0, none⟩ = some (.int .i64 a0_0) := (blk_cell BK150.out 0).trans rfl
                            have hcz93_1 : wc.cell? ⟨gb150, 1, none⟩ = some (.int .i64 a0_1) := (blk_cell BK150.out 1).trans rfl
                            have hcz93_2 : wc.cell? ⟨gb150, 2, none⟩ = some (.int .i64 a0_2) := (blk_cell BK150.out 2).trans rfl
                            have hcz93_3 : wc.cell? ⟨gb150, 3, none⟩ = some (.int .i64 a0_3) := (blk_cell BK150.out 3).trans rfl
                            have hcz93_4 : wc.cell? ⟨gb150, 4, none⟩ = some (.int .i64 a0_4) := (blk_cell BK150.out 4).trans rfl
                            have hcz93_5 : wc.cell? ⟨gb150, 5, none⟩ = some (.int .i64 a0_5) := (blk_cell BK150.out 5).trans rfl
                            have hcz93_6 : wc.cell? ⟨gb150, 6, none⟩ = some (.int .i64 a0_6) := (blk_cell BK150.out 6).trans rfl
                            have hcz93_7 : wc.cell? ⟨gb150, 7, none⟩ = some (.int .i64 a0_7) := (blk_cell BK150.out 7).trans rfl
                            have hcz93_8 : wc.cell? ⟨gb150, 8, none⟩ = some (.bool false) := (blk_cell BK150.out 8).trans rfl
                            have hcz93_9 : wc.cell? ⟨gb150, 9, none⟩ = some (.slice A0_9 l0_9.length c0_9) := (blk_cell BK150.out 9).trans rfl
                            have hcz93_10 : wc.cell? ⟨gb150, 10, none⟩ = some (.slice A0_10 l0_10.length c0_10) := (blk_cell BK150.out 10).trans rfl
                            have hfz93_0 := blk_frozen BK150.out 0
                            have hfz93_1 := blk_frozen BK150.out 1
                            have hfz93_2 := blk_frozen BK150.out 2
                            have hfz93_3 := blk_frozen BK150.out 3
                            have hfz93_4 := blk_frozen BK150.out 4
                            have hfz93_5 := blk_frozen BK150.out 5
                            have hfz93_6 := blk_frozen BK150.out 6
                            have hfz93_7 := blk_frozen BK150.out 7
                            have hfz93_8 := blk_frozen BK150.out 8
                            have hfz93_9 := blk_frozen BK150.out 9
                            have hfz93_10 := blk_frozen BK150.out 10
                            go_wp2
                            go_ret
                            exact ⟨by first | rfl | (simp [errW_none, errW_some] <;> rfl) | (simp [*, errW_none, errW_some] <;> rfl), by repeat (first | (with_reducible first | exact HB.out | apply below_alloc | apply pw_below_drewN | apply below_drew1 | refine below_set ?_ GE150.out) | exact HB.out)⟩
                      · rw [if_neg c88] at H
                        have c88b0 : (a0_0 == 1) = false := beq_eq_false_iff_ne.mpr c88
                        have c88b1 : (a0_0 != 1) = true := bne_iff_ne.mpr c88
                        by_cases c94 : a0_4 = 0
                        · rw [if_pos c94] at H
                          have c94b0 : (a0_4 == 0) = true := beq_iff_eq.mpr c94
                          have c94b1 : (a0_4 != 0) = false := bne_eq_false_iff_eq.mpr c94
                          clear c94
                          by_cases c95 : (!(a0_5 == 0) || (!(a0_6 == 0) || (!(a0_7 == 0)))) = true
                          · rw [if_pos c95] at H
                            have c95b0 : (!(a0_5 == 0) || (!(a0_6 == 0) || (!(a0_7 == 0)))) = true := c95
                            clear c95
                            obtain rfl := Option.some.inj H
                            have hcz96_0 : wc.cell? ⟨gb150, 0, none⟩ = some (.int .i64 a0_0) := (blk_cell BK150.out 0).trans rfl
                            have hcz96_1 : wc.cell? ⟨gb150, 1, none⟩ = some (.int .i64 a0_1) := (blk_cell BK150.out 1).trans rfl
                            have hcz96_2 : wc.cell? ⟨gb150, 2, none⟩ = some (.int .i64 a0_2) := (blk_cell BK150.out 2).trans rfl
                            have hcz96_3 : wc.cell? ⟨gb150, 3, none⟩ = some (.int .i64 a0_3) := (blk_cell BK150.out 3).trans rfl
                            have hcz96_4 : wc.cell? ⟨gb150, 4, none⟩ = some (.int .i64 a0_4) := (blk_cell BK150.out 4).trans rfl
                            have hcz96_5 : wc.cell? ⟨gb150, 5, none⟩ = some (.int .i64 a0_5) := (blk_cell BK150.out 5).trans rfl
                            have hcz96_6 : wc.cell? ⟨gb150, 6, none⟩ = some (.int .i64 a0_6) := (blk_cell BK150.out 6).trans rfl
                            have hcz96_7 : wc.cell? ⟨gb150, 7, none⟩ = some (.int .i64 a0_7) := (blk_cell BK150.out 7).trans rfl
                            have hcz96_8 : wc.cell? ⟨gb150, 8, none⟩ = some (.bool a0_8) := (blk_cell BK150.out 8).trans rfl
                            have hcz96_9 : wc.cell? ⟨gb150, 9, none⟩ = some (.slice A0_9 l0_9.length c0_9) := (blk_cell BK150.out 9).trans rfl
                            have hcz96_10 : wc.cell? ⟨gb150, 10, none⟩ = some (.slice A0_10 l0_10.length c0_10) := (blk_cell BK150.out 10).trans rfl
                            have hfz96_0 := blk_frozen BK150.out 0
                            have hfz96_1 := blk_frozen BK150.out 1
                            have hfz96_2 := blk_frozen BK150.out 2
                            have hfz96_3 := blk_frozen BK150.out 3
                            have hfz96_4 := blk_frozen BK150.out 4
                            have hfz96_5 := blk_frozen BK150.out 5
                            have hfz96_6 := blk_frozen BK150.out 6
                            have hfz96_7 := blk_frozen BK150.out 7
                            have hfz96_8 := blk_frozen BK150.out 8
                            have hfz96_9 := blk_frozen BK150.out 9
                            have hfz96_10 := blk_frozen BK150.out 10
                            go_wp2
                            go_ret
                            exact ⟨by first | rfl | (simp [errW_none, errW_some] <;> rfl) | (simp [*, errW_none, errW_some] <;> rfl), by repeat (first | (with_reducible first | exact HB.out | apply below_alloc | apply pw_below_drewN | apply below_drew1 | refine below_set ?_ GE150.out) | exact HB.out)⟩
                          · rw [if_neg c95] at H
                            have c95b0 : (!(a0_5 == 0) || (!(a0_6 == 0) || (!(a0_7 == 0)))) = false := by simpa using c95
                            clear c95
                            by_cases c97 : a0_8 = true
                            · subst c97
                              have H1 : (some false) = some r := by rw [if_pos rfl] at H; exact H
                              clear H
                              have H := H1
                              clear H1
                              obtain rfl := Option.some.inj H
                              have hcz98_0 : wc.cell? ⟨gb150, 0, none⟩ = some (.int .i64 a0_0) := (blk_cell BK150.out 0).trans rfl
                              have hcz98_1 : wc.cell? ⟨gb150, 1, none⟩ = some (.int .i64 a0_1) := (blk_cell BK150.out 1).trans rfl
                              have hcz98_2 : wc.cell? ⟨gb150, 2, none⟩ = some (.int .i64 a0_2) := (blk_cell BK150.out 2).trans rfl
                              have hcz98_3 : wc.cell? ⟨gb150, 3, none⟩ = some (.int .i64 a0_3) := (blk_cell BK150.out 3).trans rfl
                              have hcz98_4 : wc.cell? ⟨gb150, 4, none⟩ = some (.int .i64 a0_4) := (blk_cell BK150.out 4).trans rfl
                              have hcz98_5 : wc.cell? ⟨gb150, 5, none⟩ = some (.int .i64 a0_5) := (blk_cell BK150.out 5).trans rfl
                              have hcz98_6 : wc.cell? ⟨gb150, 6, none⟩ = some (.int .i64 a0_6) := (blk_cell BK150.out 6).trans rfl
                              have hcz98_7 : wc.cell? ⟨gb150, 7, none⟩ = some (.int .i64 a0_7) := (blk_cell BK150.out 7).trans rfl
                              have hcz98_8 : wc.cell? ⟨gb150, 8, none⟩ = some (.bool true) := (blk_cell BK150.out 8).trans rfl
                              have hcz98_9 : wc.cell? ⟨gb150, 9, none⟩ = some (.slice A0_9 l0_9.length c0_9) := (blk_cell BK150.out 9).trans rfl
                              have hcz98_10 : wc.cell? ⟨gb150, 10, none⟩ = some (.slice A0_10 l0_10.length c0_10) := (blk_cell BK150.out 10).trans rfl
                              have hfz98_0 := blk_frozen BK150.out 0
                              have hfz98_1 := blk_frozen BK150.out 1
                              have hfz98_2 := blk_frozen BK150.out 2
                              have hfz98_3 := blk_frozen BK150.out 3
                              have hfz98_4 := blk_frozen BK150.out 4
                              have hfz98_5 := blk_frozen BK150.out 5
                              have hfz98_6 := blk_frozen BK150.out 6
                              have hfz98_7 := blk_frozen BK150.out 7
                              have hfz98_8 := blk_frozen BK150.out 8
                              have hfz98_9 := blk_frozen BK150.out 9
                              have hfz98_10 := blk_frozen BK150.out 10
                              go_wp2
                              go_ret
                              exact ⟨by first | rfl | (simp [errW_none, errW_some] <;> rfl) | (simp [*, errW_none, errW_some] <;> rfl), by repeat (first | (with_reducible first | exact HB.out | apply below_alloc | apply pw_below_drewN | apply below_drew1 | refine below_set ?_ GE150.out) | exact HB.out)⟩
                            · replace c97 := Bool.eq_false_iff.mpr c97
                              subst c97
                              have H1 : (if (l0_9.length : Int) = 0 then (some ((l0_10.length : Int) == 0)) else (some false)) = some r := by rw [if_neg (show ¬ (false = true) by decide)] at H; exact H
                              clear H
                              have H := H1
                              clear H1
                              by_cases c99 : (l0_9.length : Int) = 0
                              · rw [if_pos c99] at H
                                have c99b0 : ((l0_9.length : Int) == 0) = true := beq_iff_eq.mpr c99
                                have c99b1 : ((l0_9.length : Int) != 0) = false := bne_eq_false_iff_eq.mpr c99
                                clear c99
                                obtain rfl := Option.some.inj H
                                have hcz100_0 : wc.cell? ⟨gb150, 0, none⟩ = some (.int .i64 a0_0) := (blk_cell BK150.out 0).trans rfl
                                have hcz100_1 : wc.cell? ⟨gb150, 1, none⟩ = some (.int .i64 a0_1) := (blk_cell BK150.out 1).trans rfl
                                have hcz100_2 : wc.cell? ⟨gb150, 2, none⟩ = some (.int .i64 a0_2) := (blk_cell BK150.out 2).trans rfl
                                have hcz100_3 : wc.cell? ⟨gb150, 3, none⟩ = some (.int .i64 a0_3) := (blk_cell BK150.out 3).trans rfl
                                have hcz100_4 : wc.cell? ⟨gb150, 4, none⟩ = some (.int .i64 a0_4) := (blk_cell BK150.out 4).trans rfl
                                have hcz100_5 : wc.cell? ⟨gb150, 5, none⟩ = some (.int .i64 a0_5) := (blk_cell BK150.out 5).trans rfl
                                have hcz100_6 : wc.cell? ⟨gb150, 6, none⟩ = some (.int .i64 a0_6) := (blk_cell BK150.out 6).trans rfl
                                have hcz100_7 : wc.cell? ⟨gb150, 7, none⟩ = some (.int .i64 a0_7) := (blk_cell BK150.out 7).trans rfl
                                have hcz100_8 : wc.cell? ⟨gb150, 8, none⟩ = some (.bool false) := (blk_cell BK150.out 8).trans rfl
                                have hcz100_9 : wc.cell? ⟨gb150, 9, none⟩ = some (.slice A0_9 l0_9.length c0_9) := (blk_cell BK150.out 9).trans rfl
                                have hcz100_10 : wc.cell? ⟨gb150, 10, none⟩ = some (.slice A0_10 l0_10.length c0_10) := (blk_cell BK150.out 10).trans rfl
                                have hfz100_0 := blk_frozen BK150.out 0
                                have hfz100_1 := blk_frozen BK150.out 1
                                have hfz100_2 := blk_frozen BK150.out 2
                                have hfz100_3 := blk_frozen BK150.out 3
                                have hfz100_4 := blk_frozen BK150.out 4
                                have hfz100_5 := blk_frozen BK150.out 5
                                have hfz100_6 := blk_frozen BK150.out 6
                                have hfz100_7 := blk_frozen BK150.out 7
                                have hfz100_8 := blk_frozen BK150.out 8
                                have hfz100_9 := blk_frozen BK150.out 9
                                have hfz100_10 := blk_frozen BK150.out 10
                                go_wp2
                                go_ret
                                exact ⟨by first | rfl | (simp [errW_none, errW_some] <;> rfl) | (simp [*, errW_none, errW_some] <;> rfl), by repeat (first | (with_reducible first | exact HB.out | apply below_alloc | apply pw_below_drewN | apply below_drew1 | refine below_set ?_ GE150.out) | exact HB.out)⟩
                              · rw [if_neg c99] at H
                                have c99b0 : ((l0_9.length : Int) == 0) = false := beq_eq_false_iff_ne.mpr c99
                                have c99b1 : ((l0_9.length : Int) != 0) = true := bne_iff_ne.mpr c99
                                have c99b2 : ¬ (l0_9 = []) := fun h_ => c99 (by rw [h_]; rfl)
                                obtain rfl := Option.some.inj H
                                have hcz101_0 : wc.cell? ⟨gb150, 0, none⟩ = some (.int .i64 a0_0) := (blk_cell BK150.out 0).trans rfl
                                have hcz101_1 : wc.cell? ⟨gb150, 1, none⟩ = some (.int .i64 a0_1) := (blk_cell BK150.out 1).trans rfl
                                have hcz101_2 : wc.cell? ⟨gb150, 2, none⟩ = some (.int .i64 a0_2) := (blk_cell BK150.out 2).trans rfl
                                have hcz101_3 : wc.cell? ⟨gb150, 3, none⟩ = some (.int .i64 a0_3) := (blk_cell BK150.out 3).trans rfl
                                have hcz101_4 : wc.cell? ⟨gb150, 4, none⟩ = some (.int .i64 a0_4) := (blk_cell BK150.out 4).trans rfl
                                have hcz101_5 : wc.cell? ⟨gb150, 5, none⟩ = some (.int .i64 a0_5) := (blk_cell BK150.out 5).trans rfl
                                have hcz101_6 : wc.cell? ⟨gb150, 6, none⟩ = some (.int .i64 a0_6) := (blk_cell BK150.out 6).trans rfl
                                have hcz101_7 : wc.cell? ⟨gb150, 7, none⟩ = some (.int .i64 a0_7) := (blk_cell BK150.out 7).trans rfl
                                have hcz101_8 : wc.cell? ⟨gb150, 8, none⟩ = some (.bool false) := (blk_cell BK150.out 8).trans rfl
                                have hcz101_9 : wc.cell? ⟨gb150, 9, none⟩ = some (.slice A0_9 l0_9.length c0_9) := (blk_cell BK150.out 9).trans rfl
                                have hcz101_10 : wc.cell? ⟨gb150, 10, none⟩ = some (.slice A0_10 l0_10.length c0_10) := (blk_cell BK150.out 10).trans rfl
                                have hfz101_0 := blk_frozen BK150.out 0
                                have hfz101_1 := blk_frozen BK150.out 1
                                have hfz101_2 := blk_frozen BK150.out 2
                                have hfz101_3 := blk_frozen BK150.out 3
                                have hfz101_4 := blk_frozen BK150.out 4
                                have hfz101_5 := blk_frozen BK150.out 5
                                have hfz101_6 := blk_frozen BK150.out 6
                                have hfz101_7 := blk_frozen BK150.out 7
                                have hfz101_8 := blk_frozen BK150.out 8
                                have hfz101_9 := blk_frozen BK150.out 9
                                have hfz101_10 := blk_frozen BK150.out 10
                                go_wp2
                                go_ret
                                exact ⟨by first | rfl | (simp [errW_none, errW_some] <;> rfl) | (simp [*, errW_none, errW_some] <;> rfl), by repeat (first | (with_reducible first | exact HB.out | apply below_alloc | apply pw_below_drewN | apply below_drew1 | refine below_set ?_ GE150.out) | exact HB.out)⟩
                        · rw [if_neg c94] at H
                          have c94b0 : (a0_4 == 0) = false := beq_eq_false_iff_ne.mpr c94
                          have c94b1 : (a0_4 != 0) = true := bne_iff_ne.mpr c94
                          obtain rfl := Option.some.inj H
                          have hcz102_0 : wc.cell? ⟨gb150, 0, none⟩ = some (.int .i64 a0_0) := (blk_cell BK150.out 0).trans rfl
                          have hcz102_1 : wc.cell? ⟨gb150, 1, none⟩ = some (.int .i64 a0_1) := (blk_cell BK150.out 1).trans rfl
                          have hcz102_2 : wc.cell? ⟨gb150, 2, none⟩ = some (.int .i64 a0_2) := (blk_cell BK150.out 2).trans rfl
                          have hcz102_3 : wc.cell? ⟨gb150, 3, none⟩ = some (.int .i64 a0_3) := (blk_cell BK150.out 3).trans rfl
                          have hcz102_4 : wc.cell? ⟨gb150, 4, none⟩ = some (.int .i64 a0_4) := (blk_cell BK150.out 4).trans rfl
                          have hcz102_5 : wc.cell? ⟨gb150, 5, none⟩ = some (.int .i64 a0_5) := (blk_cell BK150.out 5).trans rfl
                          have hcz102_6 : wc.cell? ⟨gb150, 6, none⟩ = some (.int .i64 a0_6) := (blk_cell BK150.out 6).trans rfl
                          have hcz102_7 : wc.cell? ⟨gb150, 7, none⟩ = some (.int .i64 a0_7) := (blk_cell BK150.out 7).trans rfl
                          have hcz102_8 : wc.cell? ⟨gb150, 8, none⟩ = some (.bool a0_8) := (blk_cell BK150.out 8).trans rfl
                          have hcz102_9 : wc.cell? ⟨gb150, 9, none⟩ = some (.slice A0_9 l0_9.length c0_9) := (blk_cell BK150.out 9).trans rfl
                          have hcz102_10 : wc.cell? ⟨gb150, 10, none⟩ = some (.slice A0_10 l0_10.length c0_10) := (blk_cell BK150.out 10).trans rfl
                          have hfz102_0 := blk_frozen BK150.out 0
                          have hfz102_1 := blk_frozen BK150.out 1
                          have hfz102_2 := blk_frozen BK150.out 2
                          have hfz102_3 := blk_frozen BK150.out 3
                          have hfz102_4 := blk_frozen BK150.out 4
                          have hfz102_5 := blk_frozen BK150.out 5
                          have hfz102_6 := blk_frozen BK150.out 6
                          have hfz102_7 := blk_frozen BK150.out 7
                          have hfz102_8 := blk_frozen BK150.out 8
                          have hfz102_9 := blk_frozen BK150.out 9
                          have hfz102_10 := blk_frozen BK150.out 10
                          go_wp2
                          go_ret
                          exact ⟨by first | rfl | (simp [errW_none, errW_some] <;> rfl) | (simp [*, errW_none, errW_some] <;> rfl), by repeat (first | (with_reducible first | exact HB.out | apply below_alloc | apply pw_below_drewN | apply below_drew1 | refine below_set ?_ GE150.out) | exact HB.out)⟩
                    · rw [if_neg c87] at H
                      have c87b0 : (a0_3 == 0) = false := beq_eq_false_iff_ne.mpr c87
                      have c87b1 : (a0_3 != 0) = true := bne_iff_ne.mpr c87
                      obtain rfl := Option.some.inj H
                      have hcz103_0 : wc.cell? ⟨gb150, 0, none⟩ = some (.int .i64 a0_0) := (blk_cell BK150.out 0).trans rfl
                      have hcz103_1 : wc.cell? ⟨gb150, 1, none⟩ = some (.int .i64 a0_1) := (blk_cell BK150.out 1).trans rfl
                      have hcz103_2 : wc.cell? ⟨gb150, 2, none⟩ = some (.int .i64 a0_2) := (blk_cell BK150.out 2).trans rfl
                      have hcz103_3 : wc.cell? ⟨gb150, 3, none⟩ = some (.int .i64 a0_3) := (blk_cell BK150.out 3).trans rfl
                      have hcz103_4 : wc.cell? ⟨gb150, 4, none⟩ = some (.int .i64 a0_4) := (blk_cell BK150.out 4).trans rfl
                      have hcz103_5 : wc.cell? ⟨gb150, 5, none⟩ = some (.int .i64 a0_5) := (blk_cell BK150.out 5).trans rfl
                      have hcz103_6 : wc.cell? ⟨gb150, 6, none⟩ = some (.int .i64 a0_6) := (blk_cell BK150.out 6).trans rfl
                      have hcz103_7 : wc.cell? ⟨gb150, 7, none⟩ = some (.int .i64 a0_7) := (blk_cell BK150.out 7).trans rfl
                      have hcz103_8 : wc.cell? ⟨gb150, 8, none⟩ = some (.bool a0_8) := (blk_cell BK150.out 8).trans rfl
                      have hcz103_9 : wc.cell? ⟨gb150, 9, none⟩ = some (.slice A0_9 l0_9.length c0_9) := (blk_cell BK150.out 9).trans rfl
                      have hcz103_10 : wc.cell? ⟨gb150, 10, none⟩ = some (.slice A0_10 l0_10.length c0_10) := (blk_cell BK150.out 10).trans rfl
                      have hfz103_0 := blk_frozen BK150.out 0
                      have hfz103_1 := blk_frozen BK150.out 1
                      have hfz103_2 := blk_frozen BK150.out 2
                      have hfz103_3 := blk_frozen BK150.out 3
                      have hfz103_4 := blk_frozen BK150.out 4
                      have hfz103_5 := blk_frozen BK150.out 5
                      have hfz103_6 := blk_frozen BK150.out 6
                      have hfz103_7 := blk_frozen BK150.out 7
                      have hfz103_8 := blk_frozen BK150.out 8
                      have hfz103_9 := blk_frozen BK150.out 9
                      have hfz103_10 := blk_frozen BK150.out 10
                      go_wp2
                      go_ret
                      exact ⟨by first | rfl | (simp [errW_none, errW_some] <;> rfl) | (simp [*, errW_none, errW_some] <;> rfl), by repeat (first | (with_reducible first | exact HB.out | apply below_alloc | apply pw_below_drewN | apply below_drew1 | refine below_set ?_ GE150.out) | exact HB.out)⟩
                  · rw [if_neg c86] at H
                    have c86b0 : (a0_2 == 0) = false := beq_eq_false_iff_ne.mpr c86
                    have c86b1 : (a0_2 != 0) = true := bne_iff_ne.mpr c86
                    obtain rfl := Option.some.inj H
                    have hcz104_0 : wc.cell? ⟨gb150, 0, none⟩ = some (.int .i64 a0_0) := (blk_cell BK150.out 0).trans rfl
                    have hcz104_1 : wc.cell? ⟨gb150, 1, none⟩ = some (.int .i64 a0_1) := (blk_cell BK150.out 1).trans rfl
                    have hcz104_2 : wc.cell? ⟨gb150, 2, none⟩ = some (.int .i64 a0_2) := (blk_cell BK150.out 2).trans rfl
                    have hcz104_3 : wc.cell? ⟨gb150, 3, none⟩ = some (.int .i64 a0_3) := (blk_cell BK150.out 3).trans rfl
                    have hcz104_4 : wc.cell? ⟨gb150, 4, none⟩ = some (.int .i64 a0_4) := (blk_cell BK150.out 4).trans rfl
                    have hcz104_5 : wc.cell? ⟨gb150, 5, none⟩ = some (.int .i64 a0_5) := (blk_cell BK150.out 5).trans rfl
                    have hcz104_6 : wc.cell? ⟨gb150, 6, none⟩ = some (.int .i64 a0_6) := (blk_cell BK150.out 6).trans rfl
                    have hcz104_7 : wc.cell? ⟨gb150, 7, none⟩ = some (.int .i64 a0_7) := (blk_cell BK150.out 7).trans rfl
                    have hcz104_8 : wc.cell? ⟨gb150, 8, none⟩ = some (.bool a0_8) := (blk_cell BK150.out 8).trans rfl
                    have hcz104_9 : wc.cell? ⟨gb150, 9, none⟩ = some (.slice A0_9 l0_9.length c0_9) := (blk_cell BK150.out 9).trans rfl
                    have hcz104_10 : wc.cell? ⟨gb150, 10, none⟩ = some (.slice A0_10 l0_10.length c0_10) := (blk_cell BK150.out 10).trans rfl
                    have hfz104_0 := blk_frozen BK150.out 0
                    have hfz104_1 := blk_frozen BK150.out 1
                    have hfz104_2 := blk_frozen BK150.out 2
                    have hfz104_3 := blk_frozen BK150.out 3
                    have hfz104_4 := blk_frozen BK150.out 4
                    have hfz104_5 := blk_frozen BK150.out 5
                    have hfz104_6 := blk_frozen BK150.out 6
                    have hfz104_7 := blk_frozen BK150.out 7
                    have hfz104_8 := blk_frozen BK150.out 8
                    have hfz104_9 := blk_frozen BK150.out 9
                    have hfz104_10 := blk_frozen BK150.out 10
                    go_wp2
                    go_ret
                    exact ⟨by first | rfl | (simp [errW_none, errW_some] <;> rfl) | (simp [*, errW_none, errW_some] <;> rfl), by repeat (first | (with_reducible first | exact HB.out | apply below_alloc | apply pw_below_drewN | apply below_drew1 | refine below_set ?_ GE150.out) | exact HB.out)⟩
                · rw [if_neg c85] at H
                  have c85b0 : (a0_1 == 0) = false := beq_eq_false_iff_ne.mpr c85
                  have c85b1 : (a0_1 != 0) = true := bne_iff_ne.mpr c85
                  obtain rfl := Option.some.inj H
                  have hcz105_0 : wc.cell? ⟨gb150, 0, none⟩ = some (.int .i64 a0_0) := (blk_cell BK150.out 0).trans rfl
                  have hcz105_1 : wc.cell? ⟨gb150, 1, none⟩ = some (.int .i64 a0_1) := (blk_cell BK150.out 1).trans rfl
                  have hcz105_2 : wc.cell? ⟨gb150, 2, none⟩ = some (.int .i64 a0_2) := (blk_cell BK150.out 2).trans rfl
                  have hcz105_3 : wc.cell? ⟨gb150, 3, none⟩ = some (.int .i64 a0_3) := (blk_cell BK150.out 3).trans rfl
                  have hcz105_4 : wc.cell? ⟨gb150, 4, none⟩ = some (.int .i64 a0_4) := (blk_cell BK150.out 4).trans rfl
                  have hcz105_5 : wc.cell? ⟨gb150, 5, none⟩ = some (.int .i64 a0_5) := (blk_cell BK150.out 5).trans rfl
                  have hcz105_6 : wc.cell? ⟨gb150, 6, none⟩ = some (.int .i64 a0_6) := (blk_cell BK150.out 6).trans rfl
                  have hcz105_7 : wc.cell? ⟨gb150, 7, none⟩ = some (.int .i64 a0_7) := (blk_cell BK150.out 7).trans rfl
                  have hcz105_8 : wc.cell? ⟨gb150, 8, none⟩ = some (.bool a0_8) := (blk_cell BK150.out 8).trans rfl
                  have hcz105_9 : wc.cell? ⟨gb150, 9, none⟩ = some (.slice A0_9 l0_9.length c0_9) := (blk_cell BK150.out 9).trans rfl
                  have hcz105_10 : wc.cell? ⟨gb150, 10, none⟩ = some (.slice A0_10 l0_10.length c0_10) := (blk_cell BK150.out 10).trans rfl
                  have hfz105_0 := blk_frozen BK150.out 0
                  have hfz105_1 := blk_frozen BK150.out 1
                  have hfz105_2 := blk_frozen BK150.out 2
                  have hfz105_3 := blk_frozen BK150.out 3
                  have hfz105_4 := blk_frozen BK150.out 4
                  have hfz105_5 := blk_frozen BK150.out 5
                  have hfz105_6 := blk_frozen BK150.out 6
                  have hfz105_7 := blk_frozen BK150.out 7
                  have hfz105_8 := blk_frozen BK150.out 8
                  have hfz105_9 := blk_frozen BK150.out 9
                  have hfz105_10 := blk_frozen BK150.out 10
                  go_wp2
                  go_ret
                  exact ⟨by first | rfl | (simp [errW_none, errW_some] <;> rfl) | (simp [*, errW_none, errW_some] <;> rfl), by repeat (first | (with_reducible first | exact HB.out | apply below_alloc | apply pw_below_drewN | apply below_drew1 | refine below_set ?_ GE150.out) | exact HB.out)⟩

end Go.Proofs.Ytmnglonjekegcaa.Rp
