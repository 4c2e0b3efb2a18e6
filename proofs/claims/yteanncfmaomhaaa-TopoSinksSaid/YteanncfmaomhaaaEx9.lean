-- Written by a program of this work (wip/given.py) out of the translation; Lean checks it.
import Derived.Test.YteanncfmaomhaaaEx0
import Derived.Test.YteanncfmaomhaaaWGuard
import Derived.Test.YteanncfmaomhaaaWFoot
import Derived.Test.YteanncfmaomhaaaWN
import Derived.Test.YteanncfmaomhaaaWRepsOne
import Derived.Test.YteanncfmaomhaaaWShare
import Derived.Test.YteanncfmaomhaaaWKept
import Derived.Test.YteanncfmaomhaaaWApart
import Derived.Test.YteanncfmaomhaaaEx8
namespace Go.Proofs.Yteanncfmaomhaaa.Ex
open Go.RowKit Go.Proofs.YteanncfmaomhaaaW.PrintWords Go.Proofs.YteanncfmaomhaaaW.PrintLast Go.Proofs.YteanncfmaomhaaaW.PrintMore
attribute [local go_sem] max2_int min2_int max_two min_two max_three min_three max_four min_four   -- for this text's walks alone
set_option linter.unusedVariables false
set_option linter.unusedSimpArgs false

/-! ### tidemillref05_Check: function 11 -/
mutual
def tidemillref05_Check.j0 : Nat → Bool → List (S40) → Int → Option (Int × Int)
  | 0, _, _, _ => none
  | k + 1, x25, x198000, x198001 => if x25 = true then (some ((-1), 2)) else (tidemillref05_Check.l0 k 0 x198000 x198001)
def tidemillref05_Check.l0 : Nat → Int → List (S40) → Int → Option (Int × Int)
  | 0, _, _, _ => none
  | k + 1, x4, x198000, x198001 => if x4 < (x198000.length : Int) then ((tidemillref05_vertex.f k x198000 x198001 x4).bind fun t198 => (if t198 = 0 then (tidemillref05_Check.l0 k (wrap64 (x4 + 1)) x198000 x198001) else (some (x4, t198)))) else (some ((-1), 0))
end
def tidemillref05_Check.f (k : Nat) (l0_0 : List (S40)) (a0_1 : Int) : Option (Int × Int) := if a0_1 < 1 then (tidemillref05_Check.j0 k true l0_0 a0_1) else (if a0_1 > 8 then (tidemillref05_Check.j0 k true l0_0 a0_1) else (if (l0_0.length : Int) < 1 then (tidemillref05_Check.j0 k true l0_0 a0_1) else (tidemillref05_Check.j0 k (decide ((l0_0.length : Int) > 24)) l0_0 a0_1)))
theorem tidemillref05_Check.mono_l : ∀ k, (∀ y0 y1 y2, LeO (tidemillref05_Check.j0 k y0 y1 y2) (tidemillref05_Check.j0 (k + 1) y0 y1 y2)) ∧ (∀ y0 y1 y2, LeO (tidemillref05_Check.l0 k y0 y1 y2) (tidemillref05_Check.l0 (k + 1) y0 y1 y2))
  | 0 => ⟨fun _ _ _ r h => by simp [tidemillref05_Check.j0] at h, fun _ _ _ r h => by simp [tidemillref05_Check.l0] at h⟩
  | k + 1 => by
    obtain ⟨ih0, ih1⟩ := tidemillref05_Check.mono_l k
    refine ⟨?_, ?_⟩
    · intro y0 y1 y2
      unfold tidemillref05_Check.j0
      repeat' first
      | (with_reducible exact ih0 _ _ _)
      | (with_reducible exact ih1 _ _ _)
      | (with_reducible exact tidemillref05_vertex.mono _ _ _ _)
      | (with_reducible exact LeO.refl _)
      | (with_reducible exact LeO.none _)
      | (with_reducible refine LeO.ite ?_ ?_)
      | (with_reducible refine LeO.bind ?_ (fun _ => ?_))
      | exact ih0 _ _ _
      | exact ih1 _ _ _
      | exact tidemillref05_vertex.mono _ _ _ _
      | exact LeO.none _
      | refine LeO.ite ?_ ?_
      | refine LeO.bind ?_ (fun _ => ?_)
    · intro y0 y1 y2
      unfold tidemillref05_Check.l0
      repeat' first
      | (with_reducible exact ih0 _ _ _)
      | (with_reducible exact ih1 _ _ _)
      | (with_reducible exact tidemillref05_vertex.mono _ _ _ _)
      | (with_reducible exact LeO.refl _)
      | (with_reducible exact LeO.none _)
      | (with_reducible refine LeO.ite ?_ ?_)
      | (with_reducible refine LeO.bind ?_ (fun _ => ?_))
      | exact ih0 _ _ _
      | exact ih1 _ _ _
      | exact tidemillref05_vertex.mono _ _ _ _
      | exact LeO.none _
      | refine LeO.ite ?_ ?_
      | refine LeO.bind ?_ (fun _ => ?_)
theorem tidemillref05_Check.mono : ∀ a0 a1 k, LeO (tidemillref05_Check.f k a0 a1) (tidemillref05_Check.f (k + 1) a0 a1) := by
  intro a0 a1 k
  obtain ⟨ih0, ih1⟩ := tidemillref05_Check.mono_l k
  unfold tidemillref05_Check.f
  repeat' first
      | (with_reducible exact ih0 _ _ _)
      | (with_reducible exact ih1 _ _ _)
      | (with_reducible exact tidemillref05_vertex.mono _ _ _ _)
      | (with_reducible exact LeO.refl _)
      | (with_reducible exact LeO.none _)
      | (with_reducible refine LeO.ite ?_ ?_)
      | (with_reducible refine LeO.bind ?_ (fun _ => ?_))
      | exact ih0 _ _ _
      | exact ih1 _ _ _
      | exact tidemillref05_vertex.mono _ _ _ _
      | exact LeO.none _
      | refine LeO.ite ?_ ?_
      | refine LeO.bind ?_ (fun _ => ?_)
set_option maxHeartbeats 8000000 in
set_option maxRecDepth 100000 in
theorem tidemillref05_Check.calls (k : Nat) (A0_0 : Option Addr) (c0_0 : Nat) (l0_0 : List (S40)) (a0_1 : Int) (r1 : Int) (r2 : Int) (w : World) (hr0_0 : Kd.C k40 w A0_0 l0_0.length l0_0) (hc0_0 : l0_0.length ≤ c0_0) (h : tidemillref05_Check.f k l0_0 a0_1 = some (r1, r2)) :
    Calls Try.prog 11 #[.agg #[.slice A0_0 l0_0.length c0_0, .int .i64 a0_1]] w fun e w' => e = .returned (.tuple #[.int .i64 r1, .int .i64 r2]) ∧ Below w.heap.size w w' := by
  have hu24 := Try.underlying24
  have HR0_0 := Aside0.mk hr0_0
  have HC0_0 := Aside0.mk hc0_0
  clear hr0_0 hc0_0
  have HB := Aside0.mk (Below.refl w.heap.size w)
  have H : (if a0_1 < 1 then (tidemillref05_Check.j0 k true l0_0 a0_1) else (if a0_1 > 8 then (tidemillref05_Check.j0 k true l0_0 a0_1) else (if (l0_0.length : Int) < 1 then (tidemillref05_Check.j0 k true l0_0 a0_1) else (tidemillref05_Check.j0 k (decide ((l0_0.length : Int) > 24)) l0_0 a0_1)))) = some (r1, r2) := h
  clear h
  have HC2 := Aside0.mk H
  clear H
  go_enter Try.func11, Try.ntmps11
  go_upto_region 1 with (first | ((with_reducible refine gate_dst (N := 1) rfl ?_); (try (refine gate_guard (by rfl) ?_; dsimp only)); refine box_event ?hg (N := 1) ?hd (cs := #[.slice A0_0 l0_0.length c0_0, .int .i64 a0_1]) (t := 24) ?hr ?_; (case hd => rfl); (case hg => rfl); (case hr => first | (go_simp; done) | (go_simp; rfl)); intro gb197 hg w3 hbox hb; have n0_ := Aside0.mk (below_step (by repeat (first | (with_reducible first | exact HB.out | apply below_alloc | apply pw_below_drewN | apply below_drew1) | exact HB.out)) hb); have n1_ := Aside0.mk (hbox); have n2_ := Aside0.mk ((by rw [hg]; exact (below_size (by repeat (first | (with_reducible first | exact HB.out | apply below_alloc | apply pw_below_drewN | apply below_drew1) | exact HB.out))) : w.heap.size ≤ gb197)); have n3_ := Aside0.mk ((by rw [hg]; exact (below_size (by repeat (first | (with_reducible first | exact HB.out | apply below_alloc | apply pw_below_drewN | apply below_drew1) | exact HB.out))) : w.heap.size ≤ gb197)); clear HB; have HB := n0_; have BK197 := n1_; have GW197 := n2_; have GE197 := n3_; clear n0_ n1_ n2_ n3_; clear hb hbox hg))
  (try simp only [Act.put, List.setIfInBounds_toArray, List.set_cons_zero, List.set_cons_succ])
  go_cut [25] (fun v25 wc => ∃ (kq : Nat) (x25_1 : Bool), v25 = .bool x25_1 ∧ Aside0 (tidemillref05_Check.j0 kq x25_1 l0_0 a0_1 = some (r1, r2)) ∧ Aside0 (kq ≤ k) ∧ Aside0 (wc.heap[gb197]? = some (.cells #[(.slice A0_0 l0_0.length c0_0), .int .i64 a0_1] 24 (0, 0))) ∧ Aside0 (Below w.heap.size w wc))
  case first =>
    have H := HC2.out
    clear HC2
    by_cases c4 : a0_1 < 1
    · rw [if_pos c4] at H
      have c4b0 : decide (a0_1 < 1) = true := decide_eq_true c4
      clear c4
      (first | rw [c4b0] | (simp only [i64_w, i32_w]; rw [c4b0]) | skip)
      have H' := Aside0.mk H
      clear H
      have hcz5_0 : w3.cell? ⟨gb197, 0, none⟩ = some (.slice A0_0 l0_0.length c0_0) := (blk_cell BK197.out 0).trans rfl
      have hcz5_1 : w3.cell? ⟨gb197, 1, none⟩ = some (.int .i64 a0_1) := (blk_cell BK197.out 1).trans rfl
      have hfz5_0 := blk_frozen BK197.out 0
      have hfz5_1 := blk_frozen BK197.out 1
      go_wp2
      go_meet
      case rel => exact ⟨_, (true), (by first | rfl | (simp; done) | (simp [*]; done)), H', ⟨by first | omega | exact Nat.le_refl _⟩, ⟨by (with_reducible repeat (first | refine blk_drewN ?_ _ | refine blk_drew ?_ | refine blk_alloc ?_ _)); exact BK197.out⟩, ⟨by repeat (first | (with_reducible first | exact HB.out | apply below_alloc | apply pw_below_drewN | apply below_drew1 | refine below_set ?_ GE197.out) | exact HB.out)⟩⟩
    · rw [if_neg c4] at H
      have c4b0 : decide (a0_1 < 1) = false := decide_eq_false c4
      clear c4
      (first | rw [c4b0] | (simp only [i64_w, i32_w]; rw [c4b0]) | skip)
      by_cases c6 : a0_1 > 8
      · rw [if_pos c6] at H
        have c6b0 : decide (8 < a0_1) = true := decide_eq_true c6
        clear c6
        have H' := Aside0.mk H
        clear H
        have hcz7_0 : w3.cell? ⟨gb197, 0, none⟩ = some (.slice A0_0 l0_0.length c0_0) := (blk_cell BK197.out 0).trans rfl
        have hcz7_1 : w3.cell? ⟨gb197, 1, none⟩ = some (.int .i64 a0_1) := (blk_cell BK197.out 1).trans rfl
        have hfz7_0 := blk_frozen BK197.out 0
        have hfz7_1 := blk_frozen BK197.out 1
        go_wp2
        go_meet
        case rel => exact ⟨_, (true), (by first | rfl | (simp; done) | (simp [*]; done)), H', ⟨by first | omega | exact Nat.le_refl _⟩, ⟨by (with_reducible repeat (first | refine blk_drewN ?_ _ | refine blk_drew ?_ | refine blk_alloc ?_ _)); exact BK197.out⟩, ⟨by repeat (first | (with_reducible first | exact HB.out | apply below_alloc | apply pw_below_drewN | apply below_drew1 | refine below_set ?_ GE197.out) | exact HB.out)⟩⟩
      · rw [if_neg c6] at H
        have c6b0 : decide (8 < a0_1) = false := decide_eq_false c6
        clear c6
        by_cases c8 : (l0_0.length : Int) < 1
        · rw [if_pos c8] at H
          have c8b0 : decide ((l0_0.length : Int) < 1) = true := decide_eq_true c8
          have c8b1 : decide (l0_0.length < 1) = true := decide_eq_true (by omega)
          clear c8
          have H' := Aside0.mk H
          clear H
          have hcz9_0 : w3.cell? ⟨gb197, 0, none⟩ = some (.slice A0_0 l0_0.length c0_0) := (blk_cell BK197.out 0).trans rfl
          have hcz9_1 : w3.cell? ⟨gb197, 1, none⟩ = some (.int .i64 a0_1) := (blk_cell BK197.out 1).trans rfl
          have hfz9_0 := blk_frozen BK197.out 0
          have hfz9_1 := blk_frozen BK197.out 1
          go_wp2
          go_meet
          case rel => exact ⟨_, (true), (by first | rfl | (simp; done) | (simp [*]; done)), H', ⟨by first | omega | exact Nat.le_refl _⟩, ⟨by (with_reducible repeat (first | refine blk_drewN ?_ _ | refine blk_drew ?_ | refine blk_alloc ?_ _)); exact BK197.out⟩, ⟨by repeat (first | (with_reducible first | exact HB.out | apply below_alloc | apply pw_below_drewN | apply below_drew1 | refine below_set ?_ GE197.out) | exact HB.out)⟩⟩
        · rw [if_neg c8] at H
          have c8b0 : decide ((l0_0.length : Int) < 1) = false := decide_eq_false c8
          have c8b1 : decide (l0_0.length < 1) = false := decide_eq_false (by omega)
          clear c8
          have H' := Aside0.mk H
          clear H
          have hcz10_0 : w3.cell? ⟨gb197, 0, none⟩ = some (.slice A0_0 l0_0.length c0_0) := (blk_cell BK197.out 0).trans rfl
          have hcz10_1 : w3.cell? ⟨gb197, 1, none⟩ = some (.int .i64 a0_1) := (blk_cell BK197.out 1).trans rfl
          have hfz10_0 := blk_frozen BK197.out 0
          have hfz10_1 := blk_frozen BK197.out 1
          go_wp2
          go_meet
          case rel => exact ⟨_, (decide ((l0_0.length : Int) > 24)), (by first | rfl | (simp; done) | (simp [*]; done)), H', ⟨by first | omega | exact Nat.le_refl _⟩, ⟨by (with_reducible repeat (first | refine blk_drewN ?_ _ | refine blk_drew ?_ | refine blk_alloc ?_ _)); exact BK197.out⟩, ⟨by repeat (first | (with_reducible first | exact HB.out | apply below_alloc | apply pw_below_drewN | apply below_drew1 | refine below_set ?_ GE197.out) | exact HB.out)⟩⟩
  case rest =>
    clear HC2
    try clear c1
    try clear p2
    try clear c4
    try clear c4b0
    try clear c6
    try clear c6b0
    try clear c8
    try clear c8b0
    try clear c8b1
    try clear hcz10_0
    try clear hcz10_1
    try clear hcz5_0
    try clear hcz5_1
    try clear hcz7_0
    try clear hcz7_1
    try clear hcz9_0
    try clear hcz9_1
    try clear hfz10_0
    try clear hfz10_1
    try clear hfz5_0
    try clear hfz5_1
    try clear hfz7_0
    try clear hfz7_1
    try clear hfz9_0
    try clear hfz9_1
    obtain ⟨kq, x25_1, rfl, HA, HJ1, BK197, HB⟩ := hcut
    cases kq with
    | zero => exact absurd HA.out (by simp [tidemillref05_Check.j0])
    | succ kj1 =>
      have H := HA.out
      clear HA
      simp only [tidemillref05_Check.j0] at H
      by_cases c11 : x25_1 = true
      · subst c11
        have H1 : (some ((-1), 2)) = some (r1, r2) := by rw [if_pos rfl] at H; exact H
        clear H
        have H := H1
        clear H1
        simp only [Option.some.injEq, Prod.mk.injEq] at H
        obtain ⟨rfl, rfl⟩ := H
        go_wp2
        go_ret2
        exact ⟨by first | rfl | (simp [errW_none, errW_some] <;> rfl) | (simp [*, errW_none, errW_some] <;> rfl), by repeat (first | (with_reducible first | exact HB.out | apply below_alloc | apply pw_below_drewN | apply below_drew1 | refine below_set ?_ GE197.out) | exact HB.out)⟩
      · replace c11 := Bool.eq_false_iff.mpr c11
        subst c11
        have H1 : (tidemillref05_Check.l0 kj1 0 l0_0 a0_1) = some (r1, r2) := by rw [if_neg (show ¬ (false = true) by decide)] at H; exact H
        clear H
        have H := H1
        clear H1
        have H' := Aside0.mk H
        clear H
        go_wp2
        go_loopg [4] kj1 (fun kq v4 w' => ∃ (x4_2 : Int), v4 = .int .i64 x4_2 ∧ Aside0 (tidemillref05_Check.l0 kq x4_2 l0_0 a0_1 = some (r1, r2)) ∧ Aside0 (kq ≤ kj1) ∧ Aside0 (w'.heap[gb197]? = some (.cells #[(.slice A0_0 l0_0.length c0_0), .int .i64 a0_1] 24 (0, 0))) ∧ Aside0 (Below w.heap.size w w'))
        case atStart => exact ⟨(0), (by first | rfl | (simp; done) | (simp [*]; done)), H', ⟨Nat.le_refl _⟩, ⟨by (with_reducible repeat (first | refine blk_drewN ?_ _ | refine blk_drew ?_ | refine blk_alloc ?_ _)); exact BK197.out⟩, ⟨by repeat (first | (with_reducible first | exact HB.out | apply below_alloc | apply pw_below_drewN | apply below_drew1 | refine below_set ?_ GE197.out) | exact HB.out)⟩⟩
        case round =>
          clear H'
          try clear c1
          try clear p2
          try clear c4
          try clear c4b0
          try clear c6
          try clear c6b0
          try clear c8
          try clear c8b0
          try clear c8b1
          try clear c11
          try clear hcz10_0
          try clear hcz10_1
          try clear hcz5_0
          try clear hcz5_1
          try clear hcz7_0
          try clear hcz7_1
          try clear hcz9_0
          try clear hcz9_1
          try clear hfz10_0
          try clear hfz10_1
          try clear hfz5_0
          try clear hfz5_1
          try clear hfz7_0
          try clear hfz7_1
          try clear hfz9_0
          try clear hfz9_1
          try clear p2
          obtain ⟨x4_2, rfl, HA, HK2, BK197, HB⟩ := hrel
          cases gk with
          | zero => exact absurd HA.out (by simp [tidemillref05_Check.l0])
          | succ k2 =>
            have H := HA.out
            clear HA
            simp only [tidemillref05_Check.l0] at H
            by_cases c12 : x4_2 < (l0_0.length : Int)
            · rw [if_pos c12] at H
              have c12b0 : decide (x4_2 < (l0_0.length : Int)) = true := decide_eq_true c12
              clear c12
              replace H := Option.bind_eq_some_iff.mp H
              obtain ⟨t198, A130, H⟩ := H
              replace H : (if t198 = 0 then (tidemillref05_Check.l0 k2 (wrap64 (x4_2 + 1)) l0_0 a0_1) else (some (x4_2, t198))) = some (r1, r2) := H
              have A13 := Aside0.mk A130
              clear A130
              by_cases c14 : t198 = 0
              · rw [if_pos c14] at H
                have c14b0 : (t198 == 0) = true := beq_iff_eq.mpr c14
                have c14b1 : (t198 != 0) = false := bne_eq_false_iff_eq.mpr c14
                clear c14
                have H' := Aside0.mk H
                clear H
                have hcz15_0 : wr.cell? ⟨gb197, 0, none⟩ = some (.slice A0_0 l0_0.length c0_0) := (blk_cell BK197.out 0).trans rfl
                have hcz15_1 : wr.cell? ⟨gb197, 1, none⟩ = some (.int .i64 a0_1) := (blk_cell BK197.out 1).trans rfl
                have hfz15_0 := blk_frozen BK197.out 0
                have hfz15_1 := blk_frozen BK197.out 1
                go_wp2_with (first | ((with_reducible refine gate_callee (f := 21) rfl ?_); refine goesL_ (some 35) rfl rfl Try.func21 (by kernel_rfl) rfl #[.agg #[.slice A0_0 l0_0.length c0_0, .int .i64 a0_1], .int .i64 x4_2] rfl (by (try simp only [List.map_toArray, List.map_cons, List.map_nil]); first | done | rfl | (simp only [List.length_drop, List.length_take]; rfl)) ?_; (with_reducible refine (tidemillref05_vertex.calls k2 _ _ l0_0 a0_1 x4_2 t198 _ ?side1 ?side2 A13.out).mono ?_); (case side1 => repeat (first | exact (Kd.C_below HR0_0.out HB.out) | (with_reducible refine Kd.C_alloc ?_ _) | (with_reducible refine Kd.C_drewN ?_ _) | (with_reducible refine Kd.C_drew ?_))); (case side2 => exact HC0_0.out); rintro e w16 ⟨rfl, hb⟩; refine ⟨_, rfl, ?_⟩; have n0_ := Aside0.mk (blk_below (g := gb197) (o := .cells #[.slice A0_0 l0_0.length c0_0, .int .i64 a0_1] 24 (0, 0)) (by (with_reducible repeat (first | refine blk_drewN ?_ _ | refine blk_drew ?_ | refine blk_alloc ?_ _)); exact BK197.out) hb); have n1_ := Aside0.mk (below_step (by repeat (first | (with_reducible first | exact HB.out | apply below_alloc | apply pw_below_drewN | apply below_drew1 | refine below_set ?_ GE197.out) | exact HB.out)) hb); clear BK197; clear HB; have BK197 := n0_; have HB := n1_; clear n0_ n1_; (try clear hb); (try clear hb2); (try clear hk); (try clear hi)))
                go_roundg k2
                case measure => have := HJ1.out; have := HK2.out; omega
                case rel => exact ⟨(wrap64 (x4_2 + 1)), (by first | rfl | (simp; done) | (simp [*]; done)), H', ⟨by have := HJ1.out; have := HK2.out; omega⟩, ⟨by (with_reducible repeat (first | refine blk_drewN ?_ _ | refine blk_drew ?_ | refine blk_alloc ?_ _)); exact BK197.out⟩, ⟨by repeat (first | (with_reducible first | exact HB.out | apply below_alloc | apply pw_below_drewN | apply below_drew1 | refine below_set ?_ GE197.out) | exact HB.out)⟩⟩
              · rw [if_neg c14] at H
                have c14b0 : (t198 == 0) = false := beq_eq_false_iff_ne.mpr c14
                have c14b1 : (t198 != 0) = true := bne_iff_ne.mpr c14
                simp only [Option.some.injEq, Prod.mk.injEq] at H
                obtain ⟨rfl, rfl⟩ := H
                have hcz17_0 : wr.cell? ⟨gb197, 0, none⟩ = some (.slice A0_0 l0_0.length c0_0) := (blk_cell BK197.out 0).trans rfl
                have hcz17_1 : wr.cell? ⟨gb197, 1, none⟩ = some (.int .i64 a0_1) := (blk_cell BK197.out 1).trans rfl
                have hfz17_0 := blk_frozen BK197.out 0
                have hfz17_1 := blk_frozen BK197.out 1
                go_wp2_with (first | ((with_reducible refine gate_callee (f := 21) rfl ?_); refine goesL_ (some 35) rfl rfl Try.func21 (by kernel_rfl) rfl #[.agg #[.slice A0_0 l0_0.length c0_0, .int .i64 a0_1], .int .i64 x4_2] rfl (by (try simp only [List.map_toArray, List.map_cons, List.map_nil]); first | done | rfl | (simp only [List.length_drop, List.length_take]; rfl)) ?_; (with_reducible refine (tidemillref05_vertex.calls k2 _ _ l0_0 a0_1 x4_2 t198 _ ?side1 ?side2 A13.out).mono ?_); (case side1 => repeat (first | exact (Kd.C_below HR0_0.out HB.out) | (with_reducible refine Kd.C_alloc ?_ _) | (with_reducible refine Kd.C_drewN ?_ _) | (with_reducible refine Kd.C_drew ?_))); (case side2 => exact HC0_0.out); rintro e w18 ⟨rfl, hb⟩; refine ⟨_, rfl, ?_⟩; have n0_ := Aside0.mk (blk_below (g := gb197) (o := .cells #[.slice A0_0 l0_0.length c0_0, .int .i64 a0_1] 24 (0, 0)) (by (with_reducible repeat (first | refine blk_drewN ?_ _ | refine blk_drew ?_ | refine blk_alloc ?_ _)); exact BK197.out) hb); have n1_ := Aside0.mk (below_step (by repeat (first | (with_reducible first | exact HB.out | apply below_alloc | apply pw_below_drewN | apply below_drew1 | refine below_set ?_ GE197.out) | exact HB.out)) hb); clear BK197; clear HB; have BK197 := n0_; have HB := n1_; clear n0_ n1_; (try clear hb); (try clear hb2); (try clear hk); (try clear hi)))
                go_ret2
                exact ⟨by first | rfl | (simp [errW_none, errW_some] <;> rfl) | (simp [*, errW_none, errW_some] <;> rfl), by repeat (first | (with_reducible first | exact HB.out | apply below_alloc | apply pw_below_drewN | apply below_drew1 | refine below_set ?_ GE197.out) | exact HB.out)⟩
            · rw [if_neg c12] at H
              have c12b0 : decide (x4_2 < (l0_0.length : Int)) = false := decide_eq_false c12
              clear c12
              simp only [Option.some.injEq, Prod.mk.injEq] at H
              obtain ⟨rfl, rfl⟩ := H
              have hcz19_0 : wr.cell? ⟨gb197, 0, none⟩ = some (.slice A0_0 l0_0.length c0_0) := (blk_cell BK197.out 0).trans rfl
              have hcz19_1 : wr.cell? ⟨gb197, 1, none⟩ = some (.int .i64 a0_1) := (blk_cell BK197.out 1).trans rfl
              have hfz19_0 := blk_frozen BK197.out 0
              have hfz19_1 := blk_frozen BK197.out 1
              go_wp2
              go_ret2
              exact ⟨by first | rfl | (simp [errW_none, errW_some] <;> rfl) | (simp [*, errW_none, errW_some] <;> rfl), by repeat (first | (with_reducible first | exact HB.out | apply below_alloc | apply pw_below_drewN | apply below_drew1 | refine below_set ?_ GE197.out) | exact HB.out)⟩

/-! ### tidemillref01_Same: function 12 -/
def tidemillref01_Same.l0 : Nat → List Int → List Int → Int → Option (Bool)
  | 0, _, _, _ => none
  | k + 1, x0, x1, x5 => if x5 < (x0.length : Int) then (if 0 ≤ x5 then (if x5 < (x1.length : Int) then (if (rd x0 x5) = (rd x1 x5) then (tidemillref01_Same.l0 k x0 x1 (wrap64 (x5 + 1))) else (some false)) else (none)) else (none)) else (some true)
def tidemillref01_Same.f (k : Nat) (l0 : List Int) (l1 : List Int) : Option (Bool) := if (l0.length : Int) = (l1.length : Int) then (tidemillref01_Same.l0 k l0 l1 0) else (some false)
theorem tidemillref01_Same.mono_l : ∀ k, (∀ y0 y1 y2, LeO (tidemillref01_Same.l0 k y0 y1 y2) (tidemillref01_Same.l0 (k + 1) y0 y1 y2))
  | 0 => fun _ _ _ r h => by simp [tidemillref01_Same.l0] at h
  | k + 1 => by
    have ih0 := tidemillref01_Same.mono_l k
    · intro y0 y1 y2
      unfold tidemillref01_Same.l0
      repeat' first
      | (with_reducible exact ih0 _ _ _)
      | (with_reducible exact LeO.refl _)
      | (with_reducible exact LeO.none _)
      | (with_reducible refine LeO.ite ?_ ?_)
      | (with_reducible refine LeO.bind ?_ (fun _ => ?_))
      | exact ih0 _ _ _
      | exact LeO.none _
      | refine LeO.ite ?_ ?_
      | refine LeO.bind ?_ (fun _ => ?_)
theorem tidemillref01_Same.mono : ∀ a0 a1 k, LeO (tidemillref01_Same.f k a0 a1) (tidemillref01_Same.f (k + 1) a0 a1) := by
  intro a0 a1 k
  have ih0 := tidemillref01_Same.mono_l k
  unfold tidemillref01_Same.f
  repeat' first
      | (with_reducible exact ih0 _ _ _)
      | (with_reducible exact LeO.refl _)
      | (with_reducible exact LeO.none _)
      | (with_reducible refine LeO.ite ?_ ?_)
      | (with_reducible refine LeO.bind ?_ (fun _ => ?_))
      | exact ih0 _ _ _
      | exact LeO.none _
      | refine LeO.ite ?_ ?_
      | refine LeO.bind ?_ (fun _ => ?_)
set_option maxHeartbeats 8000000 in
set_option maxRecDepth 100000 in
theorem tidemillref01_Same.calls (k : Nat) (A0 : Option Addr) (c0 : Nat) (l0 : List Int) (A1 : Option Addr) (c1 : Nat) (l1 : List Int) (r : Bool) (w : World) (hr0 : Kd.C (Kd.int .i64) w A0 l0.length l0) (hc0 : l0.length ≤ c0) (hr1 : Kd.C (Kd.int .i64) w A1 l1.length l1) (hc1 : l1.length ≤ c1) (h : tidemillref01_Same.f k l0 l1 = some r) :
    Calls Try.prog 12 #[.slice A0 l0.length c0, .slice A1 l1.length c1] w fun e w' => e = .returned (.bool r) ∧ Drawn0 w w' := by
  have HR0 := Aside0.mk hr0
  have HC0 := Aside0.mk hc0
  clear hr0 hc0
  have HR1 := Aside0.mk hr1
  have HC1 := Aside0.mk hc1
  clear hr1 hc1
  have H : (if (l0.length : Int) = (l1.length : Int) then (tidemillref01_Same.l0 k l0 l1 0) else (some false)) = some r := h
  clear h
  by_cases c3 : (l0.length : Int) = (l1.length : Int)
  · rw [if_pos c3] at H
    have c3b0 : ((l0.length : Int) == (l1.length : Int)) = true := beq_iff_eq.mpr c3
    have c3b1 : ((l0.length : Int) != (l1.length : Int)) = false := bne_eq_false_iff_eq.mpr c3
    have c3b2 : (l0.length == l1.length) = true := by first | simpa using c3 | (simp at c3 ⊢; omega)
    clear c3
    have H' := Aside0.mk H
    clear H
    go_enter Try.func12, Try.ntmps12
    go_wp2
    repeat (go_quiet (fail); try go_wp2)
    go_loopg [5] k (fun kq v5 w' => ∃ (x5_1 : Int), v5 = .int .i64 x5_1 ∧ Aside0 (tidemillref01_Same.l0 kq l0 l1 x5_1 = some r) ∧ Aside0 (kq ≤ k) ∧ Drawn0 w w')
    case atStart => exact ⟨(0), (by first | rfl | (simp; done) | (simp [*]; done)), H', ⟨Nat.le_refl _⟩, by repeat (first | exact Drawn0.refl _ | apply Drawn0.step)⟩
    case round =>
      clear H'
      try clear c1
      try clear p2
      try clear c3
      try clear c3b0
      try clear c3b1
      try clear c3b2
      obtain ⟨x5_1, rfl, HA, HK1, ⟨m1, rfl⟩⟩ := hrel
      cases gk with
      | zero => exact absurd HA.out (by simp [tidemillref01_Same.l0])
      | succ k1 =>
        have H := HA.out
        clear HA
        simp only [tidemillref01_Same.l0] at H
        by_cases c4 : x5_1 < (l0.length : Int)
        · rw [if_pos c4] at H
          have c4b0 : decide (x5_1 < (l0.length : Int)) = true := decide_eq_true c4
          clear c4
          by_cases c5 : 0 ≤ x5_1
          · rw [if_pos c5] at H
            have c5b0 : decide (0 ≤ x5_1) = true := decide_eq_true c5
            clear c5
            by_cases c6 : x5_1 < (l1.length : Int)
            · rw [if_pos c6] at H
              have c6b0 : decide (x5_1 < (l1.length : Int)) = true := decide_eq_true c6
              clear c6
              by_cases c7 : (rd l0 x5_1) = (rd l1 x5_1)
              · rw [if_pos c7] at H
                have c7b0 : ((rd l0 x5_1) == (rd l1 x5_1)) = true := beq_iff_eq.mpr c7
                have c7b1 : ((rd l0 x5_1) != (rd l1 x5_1)) = false := bne_eq_false_iff_eq.mpr c7
                clear c7
                have H' := Aside0.mk H
                clear H
                have p199 : 0 ≤ (x5_1 : Int) := of_decide_eq_true (by first | (with_reducible assumption) | assumption)
                have q199 : x5_1 < (l0.length : Int) := of_decide_eq_true (by first | (with_reducible assumption) | assumption)
                obtain ⟨ad199, e199, hx199_0⟩ := Kd.at_int HR0.out x5_1 p199 q199
                cases e199
                replace p199 := eq_true p199
                replace q199 := eq_true q199
                have p200 : 0 ≤ (x5_1 : Int) := of_decide_eq_true (by first | (with_reducible assumption) | assumption)
                have q200 : x5_1 < (l1.length : Int) := of_decide_eq_true (by first | (with_reducible assumption) | assumption)
                obtain ⟨ad200, e200, hx200_0⟩ := Kd.at_int HR1.out x5_1 p200 q200
                cases e200
                replace p200 := eq_true p200
                replace q200 := eq_true q200
                go_wp2
                repeat (go_quiet (fail); try go_wp2)
                go_roundg k1
                case measure => have := HK1.out; omega
                case rel => exact ⟨(wrap64 (x5_1 + 1)), (by first | rfl | (simp; done) | (simp [*]; done)), H', ⟨by have := HK1.out; omega⟩, by repeat (first | exact Drawn0.refl _ | apply Drawn0.step)⟩
              · rw [if_neg c7] at H
                have c7b0 : ((rd l0 x5_1) == (rd l1 x5_1)) = false := beq_eq_false_iff_ne.mpr c7
                have c7b1 : ((rd l0 x5_1) != (rd l1 x5_1)) = true := bne_iff_ne.mpr c7
                obtain rfl := Option.some.inj H
                have p199 : 0 ≤ (x5_1 : Int) := of_decide_eq_true (by first | (with_reducible assumption) | assumption)
                have q199 : x5_1 < (l0.length : Int) := of_decide_eq_true (by first | (with_reducible assumption) | assumption)
                obtain ⟨ad199, e199, hx199_0⟩ := Kd.at_int HR0.out x5_1 p199 q199
                cases e199
                replace p199 := eq_true p199
                replace q199 := eq_true q199
                have p200 : 0 ≤ (x5_1 : Int) := of_decide_eq_true (by first | (with_reducible assumption) | assumption)
                have q200 : x5_1 < (l1.length : Int) := of_decide_eq_true (by first | (with_reducible assumption) | assumption)
                obtain ⟨ad200, e200, hx200_0⟩ := Kd.at_int HR1.out x5_1 p200 q200
                cases e200
                replace p200 := eq_true p200
                replace q200 := eq_true q200
                go_wp2
                repeat (go_quiet (fail); try go_wp2)
                go_ret
                exact ⟨by first | rfl | (simp; done) | (simp [*]; done), by repeat (first | exact Drawn0.refl _ | apply Drawn0.step)⟩
            · rw [if_neg c6] at H
              exact absurd H (by simp)
          · rw [if_neg c5] at H
            exact absurd H (by simp)
        · rw [if_neg c4] at H
          have c4b0 : decide (x5_1 < (l0.length : Int)) = false := decide_eq_false c4
          clear c4
          obtain rfl := Option.some.inj H
          go_wp2
          repeat (go_quiet (fail); try go_wp2)
          go_ret
          exact ⟨by first | rfl | (simp; done) | (simp [*]; done), by repeat (first | exact Drawn0.refl _ | apply Drawn0.step)⟩
  · rw [if_neg c3] at H
    have c3b0 : ((l0.length : Int) == (l1.length : Int)) = false := beq_eq_false_iff_ne.mpr c3
    have c3b1 : ((l0.length : Int) != (l1.length : Int)) = true := bne_iff_ne.mpr c3
    have c3b2 : (l0.length == l1.length) = false := by first | simpa using c3 | (simp at c3 ⊢; omega)
    obtain rfl := Option.some.inj H
    go_enter Try.func12, Try.ntmps12
    go_wp2
    repeat (go_quiet (fail); try go_wp2)
    go_ret
    exact ⟨by first | rfl | (simp; done) | (simp [*]; done), by repeat (first | exact Drawn0.refl _ | apply Drawn0.step)⟩

/-! ### tidemillref05_Users: function 14 -/
mutual
def tidemillref05_Users.l0 : Nat → Int → List Int → Int → List (S40) → Int → Option (List Int)
  | 0, _, _, _, _, _ => none
  | k + 1, x1, x5, x6, x202000, x202001 => if x6 < (x202000.length : Int) then (tidemillref05_Users.l1 k x1 x5 x6 false 0 x202000 x202001) else (some x5)
def tidemillref05_Users.l1 : Nat → Int → List Int → Int → Bool → Int → List (S40) → Int → Option (List Int)
  | 0, _, _, _, _, _, _, _ => none
  | k + 1, x1, x5, x6, x7, x8, x202000, x202001 => if 0 ≤ x6 then (if x6 < (x202000.length : Int) then (if x8 < (((rd_T40 x202000 x6).f1).length : Int) then (if x7 = true then (tidemillref05_Users.l1 k x1 x5 x6 true (wrap64 (x8 + 1)) x202000 x202001) else (if 0 ≤ x8 then (tidemillref05_Users.l1 k x1 x5 x6 ((rd ((rd_T40 x202000 x6).f1) x8) == x1) (wrap64 (x8 + 1)) x202000 x202001) else (none))) else (if x7 = true then (if x5.length < 17592186044416 then (tidemillref05_Users.l0 k x1 (x5 ++ [x6]) (wrap64 (x6 + 1)) x202000 x202001) else (none)) else (tidemillref05_Users.l0 k x1 x5 (wrap64 (x6 + 1)) x202000 x202001))) else (none)) else (none)
end
def tidemillref05_Users.f (k : Nat) (l0_0 : List (S40)) (a0_1 : Int) (a1 : Int) : Option (List Int) := tidemillref05_Users.l0 k a1 ([] : List Int) 0 l0_0 a0_1
theorem tidemillref05_Users.mono_l : ∀ k, (∀ y0 y1 y2 y3 y4, LeO (tidemillref05_Users.l0 k y0 y1 y2 y3 y4) (tidemillref05_Users.l0 (k + 1) y0 y1 y2 y3 y4)) ∧ (∀ y0 y1 y2 y3 y4 y5 y6, LeO (tidemillref05_Users.l1 k y0 y1 y2 y3 y4 y5 y6) (tidemillref05_Users.l1 (k + 1) y0 y1 y2 y3 y4 y5 y6))
  | 0 => ⟨fun _ _ _ _ _ r h => by simp [tidemillref05_Users.l0] at h, fun _ _ _ _ _ _ _ r h => by simp [tidemillref05_Users.l1] at h⟩
  | k + 1 => by
    obtain ⟨ih0, ih1⟩ := tidemillref05_Users.mono_l k
    refine ⟨?_, ?_⟩
    · intro y0 y1 y2 y3 y4
      unfold tidemillref05_Users.l0
      repeat' first
      | (with_reducible exact ih0 _ _ _ _ _)
      | (with_reducible exact ih1 _ _ _ _ _ _ _)
      | (with_reducible exact LeO.refl _)
      | (with_reducible exact LeO.none _)
      | (with_reducible refine LeO.ite ?_ ?_)
      | (with_reducible refine LeO.bind ?_ (fun _ => ?_))
      | exact ih0 _ _ _ _ _
      | exact ih1 _ _ _ _ _ _ _
      | exact LeO.none _
      | refine LeO.ite ?_ ?_
      | refine LeO.bind ?_ (fun _ => ?_)
    · intro y0 y1 y2 y3 y4 y5 y6
      unfold tidemillref05_Users.l1
      repeat' first
      | (with_reducible exact ih0 _ _ _ _ _)
      | (with_reducible exact ih1 _ _ _ _ _ _ _)
      | (with_reducible exact LeO.refl _)
      | (with_reducible exact LeO.none _)
      | (with_reducible refine LeO.ite ?_ ?_)
      | (with_reducible refine LeO.bind ?_ (fun _ => ?_))
      | exact ih0 _ _ _ _ _
      | exact ih1 _ _ _ _ _ _ _
      | exact LeO.none _
      | refine LeO.ite ?_ ?_
      | refine LeO.bind ?_ (fun _ => ?_)
theorem tidemillref05_Users.mono : ∀ a0 a1 a2 k, LeO (tidemillref05_Users.f k a0 a1 a2) (tidemillref05_Users.f (k + 1) a0 a1 a2) := by
  intro a0 a1 a2 k
  obtain ⟨ih0, ih1⟩ := tidemillref05_Users.mono_l k
  unfold tidemillref05_Users.f
  repeat' first
      | (with_reducible exact ih0 _ _ _ _ _)
      | (with_reducible exact ih1 _ _ _ _ _ _ _)
      | (with_reducible exact LeO.refl _)
      | (with_reducible exact LeO.none _)
      | (with_reducible refine LeO.ite ?_ ?_)
      | (with_reducible refine LeO.bind ?_ (fun _ => ?_))
      | exact ih0 _ _ _ _ _
      | exact ih1 _ _ _ _ _ _ _
      | exact LeO.none _
      | refine LeO.ite ?_ ?_
      | refine LeO.bind ?_ (fun _ => ?_)
set_option maxHeartbeats 8000000 in
set_option maxRecDepth 100000 in
theorem tidemillref05_Users.calls (k : Nat) (A0_0 : Option Addr) (c0_0 : Nat) (l0_0 : List (S40)) (a0_1 : Int) (a1 : Int) (r : List Int) (w : World) (hr0_0 : Kd.C k40 w A0_0 l0_0.length l0_0) (hc0_0 : l0_0.length ≤ c0_0) (h : tidemillref05_Users.f k l0_0 a0_1 a1 = some r) :
    Calls Try.prog 14 #[.agg #[.slice A0_0 l0_0.length c0_0, .int .i64 a0_1], .int .i64 a1] w fun e w' => ∃ v0_ : Value, e = .returned (v0_) ∧ Kd.R (Kd.int .i64) 3 w' w.heap.size (fun _ => True) v0_ r ∧ Below w.heap.size w w' := by
  have hu24 := Try.underlying24
  have HR0_0 := Aside0.mk hr0_0
  have HC0_0 := Aside0.mk hc0_0
  clear hr0_0 hc0_0
  have HB := Aside0.mk (Below.refl w.heap.size w)
  have H : (tidemillref05_Users.l0 k a1 ([] : List Int) 0 l0_0 a0_1) = some r := h
  clear h
  have H' := Aside0.mk H
  clear H
  go_enter Try.func14, Try.ntmps14
  go_wp2_with (first | ((with_reducible refine gate_dst (N := 2) rfl ?_); refine box_event ?hg (N := 2) ?hd (cs := #[.slice A0_0 l0_0.length c0_0, .int .i64 a0_1]) (t := 24) ?hr ?_; (case hd => rfl); (case hg => rfl); (case hr => first | (go_simp; done) | (go_simp; rfl)); intro gb201 hg w3 hbox hb; have n0_ := Aside0.mk (below_step (by repeat (first | (with_reducible first | exact HB.out | apply below_alloc | apply pw_below_drewN | apply below_drew1) | exact HB.out)) hb); have n1_ := Aside0.mk (hbox); have n2_ := Aside0.mk ((by rw [hg]; exact (below_size (by repeat (first | (with_reducible first | exact HB.out | apply below_alloc | apply pw_below_drewN | apply below_drew1) | exact HB.out))) : w.heap.size ≤ gb201)); have n3_ := Aside0.mk ((by rw [hg]; exact (below_size (by repeat (first | (with_reducible first | exact HB.out | apply below_alloc | apply pw_below_drewN | apply below_drew1) | exact HB.out))) : w.heap.size ≤ gb201)); clear HB; have HB := n0_; have BK201 := n1_; have GW201 := n2_; have GE201 := n3_; clear n0_ n1_ n2_ n3_; clear hb hbox hg))
  go_loopg [5, 6] k (fun kq v5 v6 w' => ∃ (x5_1 : List Int) (x6_1 : Int), v6 = .int .i64 x6_1 ∧ Aside0 (tidemillref05_Users.l0 kq a1 x5_1 x6_1 l0_0 a0_1 = some r) ∧ Aside0 (kq ≤ k) ∧ Aside0 (Kd.R (Kd.int .i64) 3 w' w.heap.size (fun _ => True) v5 x5_1) ∧ Aside0 (w'.heap[gb201]? = some (.cells #[(.slice A0_0 l0_0.length c0_0), .int .i64 a0_1] 24 (0, 0))) ∧ Aside0 (Below w.heap.size w w'))
  case atStart => exact ⟨(([] : List Int)), (0), (by first | rfl | (simp; done) | (simp [*]; done)), H', ⟨Nat.le_refl _⟩, ⟨by first | exact Kd.R_nil _ _ _ _ _ | exact Kd.N_nil _ _ _ _ _ | exact Kd.V_nil _ _ _ _ _ | exact Kd.Q_nil _ _ _ _ _ | exact Kd.S_nil _ _ _ _ _⟩, ⟨by (with_reducible repeat (first | refine blk_drewN ?_ _ | refine blk_drew ?_ | refine blk_alloc ?_ _)); exact BK201.out⟩, ⟨by repeat (first | (with_reducible first | exact HB.out | apply below_alloc | apply pw_below_drewN | apply below_drew1 | refine below_set ?_ GE201.out) | exact HB.out)⟩⟩
  case round =>
    clear H'
    try clear c1
    try clear p2
    obtain ⟨x5_1, x6_1, rfl, HA, HK1, HO_5, BK201, HB⟩ := hrel
    cases gk with
    | zero => exact absurd HA.out (by simp [tidemillref05_Users.l0])
    | succ k1 =>
      have H := HA.out
      clear HA
      simp only [tidemillref05_Users.l0] at H
      by_cases c4 : x6_1 < (l0_0.length : Int)
      · rw [if_pos c4] at H
        have c4b0 : decide (x6_1 < (l0_0.length : Int)) = true := decide_eq_true c4
        clear c4
        have H' := Aside0.mk H
        clear H
        have hcz5_0 : wr.cell? ⟨gb201, 0, none⟩ = some (.slice A0_0 l0_0.length c0_0) := (blk_cell BK201.out 0).trans rfl
        have hcz5_1 : wr.cell? ⟨gb201, 1, none⟩ = some (.int .i64 a0_1) := (blk_cell BK201.out 1).trans rfl
        have hfz5_0 := blk_frozen BK201.out 0
        have hfz5_1 := blk_frozen BK201.out 1
        go_wp2
        go_loopg [7, 8] k1 (fun kq v7 v8 w' => ∃ (x7_2 : Bool) (x8_2 : Int), v7 = .bool x7_2 ∧ v8 = .int .i64 x8_2 ∧ Aside0 (tidemillref05_Users.l1 kq a1 x5_1 x6_1 x7_2 x8_2 l0_0 a0_1 = some r) ∧ Aside0 (kq ≤ k1) ∧ Aside0 (Kd.R (Kd.int .i64) 3 w' w.heap.size (fun _ => True) u5 x5_1) ∧ Aside0 (w'.heap[gb201]? = some (.cells #[(.slice A0_0 l0_0.length c0_0), .int .i64 a0_1] 24 (0, 0))) ∧ Aside0 (Below w.heap.size w w'))
        case atStart => exact ⟨(false), (0), (by first | rfl | (simp; done) | (simp [*]; done)), (by first | rfl | (simp; done) | (simp [*]; done)), H', ⟨Nat.le_refl _⟩, ⟨by (with_reducible repeat (first | apply Kd.R_alloc | apply Kd.R_drewN | apply Kd.R_drew)); exact HO_5.out⟩, ⟨by (with_reducible repeat (first | refine blk_drewN ?_ _ | refine blk_drew ?_ | refine blk_alloc ?_ _)); exact BK201.out⟩, ⟨by repeat (first | (with_reducible first | exact HB.out | apply below_alloc | apply pw_below_drewN | apply below_drew1 | refine below_set ?_ GE201.out) | exact HB.out)⟩⟩
        case round =>
          clear H'
          try clear c1
          try clear p2
          try clear c4
          try clear c4b0
          try clear hcz5_0
          try clear hcz5_1
          try clear hfz5_0
          try clear hfz5_1
          try clear p2
          obtain ⟨x7_2, x8_2, rfl, rfl, HA, HK2, HO_5, BK201, HB⟩ := hrel
          cases gk with
          | zero => exact absurd HA.out (by simp [tidemillref05_Users.l1])
          | succ k2 =>
            have H := HA.out
            clear HA
            simp only [tidemillref05_Users.l1] at H
            by_cases c6 : 0 ≤ x6_1
            · rw [if_pos c6] at H
              have c6b0 : decide (0 ≤ x6_1) = true := decide_eq_true c6
              clear c6
              by_cases c7 : x6_1 < (l0_0.length : Int)
              · rw [if_pos c7] at H
                have c7b0 : decide (x6_1 < (l0_0.length : Int)) = true := decide_eq_true c7
                clear c7
                by_cases c8 : x8_2 < (((rd_T40 l0_0 x6_1).f1).length : Int)
                · rw [if_pos c8] at H
                  have c8b0 : decide (x8_2 < (((rd_T40 l0_0 x6_1).f1).length : Int)) = true := decide_eq_true c8
                  clear c8
                  by_cases c9 : x7_2 = true
                  · subst c9
                    have H1 : (tidemillref05_Users.l1 k2 a1 x5_1 x6_1 true (wrap64 (x8_2 + 1)) l0_0 a0_1) = some r := by rw [if_pos rfl] at H; exact H
                    clear H
                    have H := H1
                    clear H1
                    have H' := Aside0.mk H
                    clear H
                    have hcz10_0 : wr.cell? ⟨gb201, 0, none⟩ = some (.slice A0_0 l0_0.length c0_0) := (blk_cell BK201.out 0).trans rfl
                    have hcz10_1 : wr.cell? ⟨gb201, 1, none⟩ = some (.int .i64 a0_1) := (blk_cell BK201.out 1).trans rfl
                    have hfz10_0 := blk_frozen BK201.out 0
                    have hfz10_1 := blk_frozen BK201.out 1
                    have p202 : 0 ≤ (x6_1 : Int) := of_decide_eq_true (by first | (with_reducible assumption) | assumption)
                    have q202 : x6_1 < (l0_0.length : Int) := of_decide_eq_true (by first | (with_reducible assumption) | assumption)
                    obtain ⟨ad202, A202_1, c202_1, A202_4, c202_4, e202, hx202_0, hx202_1, hx202_2, hx202_3, hx202_4, hx202_5, hl202_1, hi202_1, hl202_4, hi202_4⟩ := at_T40 HR0_0.out x6_1 p202 q202
                    cases e202
                    replace hx202_0 := (HB.out.cell (World.block_lt_of_cell? w _ hx202_0)).trans hx202_0
                    replace hx202_1 := (HB.out.cell (World.block_lt_of_cell? w _ hx202_1)).trans hx202_1
                    replace hx202_2 := (HB.out.cell (World.block_lt_of_cell? w _ hx202_2)).trans hx202_2
                    replace hx202_3 := (HB.out.cell (World.block_lt_of_cell? w _ hx202_3)).trans hx202_3
                    replace hx202_4 := (HB.out.cell (World.block_lt_of_cell? w _ hx202_4)).trans hx202_4
                    replace hx202_5 := (HB.out.cell (World.block_lt_of_cell? w _ hx202_5)).trans hx202_5
                    have HR202_1 := Aside0.mk hi202_1
                    have HC202_1 := Aside0.mk hl202_1
                    clear hi202_1 hl202_1
                    have HR202_4 := Aside0.mk hi202_4
                    have HC202_4 := Aside0.mk hl202_4
                    clear hi202_4 hl202_4
                    replace p202 := eq_true p202
                    replace q202 := eq_true q202
                    go_wp2
                    go_roundg k2
                    case measure => have := HK1.out; have := HK2.out; omega
                    case rel => exact ⟨(true), (wrap64 (x8_2 + 1)), (by first | rfl | (simp; done) | (simp [*]; done)), (by first | rfl | (simp; done) | (simp [*]; done)), H', ⟨by have := HK1.out; have := HK2.out; omega⟩, ⟨by (with_reducible repeat (first | apply Kd.R_alloc | apply Kd.R_drewN | apply Kd.R_drew)); exact HO_5.out⟩, ⟨by (with_reducible repeat (first | refine blk_drewN ?_ _ | refine blk_drew ?_ | refine blk_alloc ?_ _)); exact BK201.out⟩, ⟨by repeat (first | (with_reducible first | exact HB.out | apply below_alloc | apply pw_below_drewN | apply below_drew1 | refine below_set ?_ GE201.out) | exact HB.out)⟩⟩
                  · replace c9 := Bool.eq_false_iff.mpr c9
                    subst c9
                    have H1 : (if 0 ≤ x8_2 then (tidemillref05_Users.l1 k2 a1 x5_1 x6_1 ((rd ((rd_T40 l0_0 x6_1).f1) x8_2) == a1) (wrap64 (x8_2 + 1)) l0_0 a0_1) else (none)) = some r := by rw [if_neg (show ¬ (false = true) by decide)] at H; exact H
                    clear H
                    have H := H1
                    clear H1
                    by_cases c11 : 0 ≤ x8_2
                    · rw [if_pos c11] at H
                      have c11b0 : decide (0 ≤ x8_2) = true := decide_eq_true c11
                      clear c11
                      have H' := Aside0.mk H
                      clear H
                      have hcz12_0 : wr.cell? ⟨gb201, 0, none⟩ = some (.slice A0_0 l0_0.length c0_0) := (blk_cell BK201.out 0).trans rfl
                      have hcz12_1 : wr.cell? ⟨gb201, 1, none⟩ = some (.int .i64 a0_1) := (blk_cell BK201.out 1).trans rfl
                      have hfz12_0 := blk_frozen BK201.out 0
                      have hfz12_1 := blk_frozen BK201.out 1
                      have p202 : 0 ≤ (x6_1 : Int) := of_decide_eq_true (by first | (with_reducible assumption) | assumption)
                      have q202 : x6_1 < (l0_0.length : Int) := of_decide_eq_true (by first | (with_reducible assumption) | assumption)
                      obtain ⟨ad202, A202_1, c202_1, A202_4, c202_4, e202, hx202_0, hx202_1, hx202_2, hx202_3, hx202_4, hx202_5, hl202_1, hi202_1, hl202_4, hi202_4⟩ := at_T40 HR0_0.out x6_1 p202 q202
                      cases e202
                      replace hx202_0 := (HB.out.cell (World.block_lt_of_cell? w _ hx202_0)).trans hx202_0
                      replace hx202_1 := (HB.out.cell (World.block_lt_of_cell? w _ hx202_1)).trans hx202_1
                      replace hx202_2 := (HB.out.cell (World.block_lt_of_cell? w _ hx202_2)).trans hx202_2
                      replace hx202_3 := (HB.out.cell (World.block_lt_of_cell? w _ hx202_3)).trans hx202_3
                      replace hx202_4 := (HB.out.cell (World.block_lt_of_cell? w _ hx202_4)).trans hx202_4
                      replace hx202_5 := (HB.out.cell (World.block_lt_of_cell? w _ hx202_5)).trans hx202_5
                      have HR202_1 := Aside0.mk hi202_1
                      have HC202_1 := Aside0.mk hl202_1
                      clear hi202_1 hl202_1
                      have HR202_4 := Aside0.mk hi202_4
                      have HC202_4 := Aside0.mk hl202_4
                      clear hi202_4 hl202_4
                      replace p202 := eq_true p202
                      replace q202 := eq_true q202
                      have p203 : 0 ≤ (x6_1 : Int) := of_decide_eq_true (by first | (with_reducible assumption) | assumption)
                      have q203 : x6_1 < (l0_0.length : Int) := of_decide_eq_true (by first | (with_reducible assumption) | assumption)
                      obtain ⟨ad203, A203_1, c203_1, A203_4, c203_4, e203, hx203_0, hx203_1, hx203_2, hx203_3, hx203_4, hx203_5, hl203_1, hi203_1, hl203_4, hi203_4⟩ := at_T40 HR0_0.out x6_1 p203 q203
                      obtain rfl : ad202 = ad203 := (by injection e203)
                      replace hx203_0 := (HB.out.cell (World.block_lt_of_cell? w _ hx203_0)).trans hx203_0
                      replace hx203_1 := (HB.out.cell (World.block_lt_of_cell? w _ hx203_1)).trans hx203_1
                      replace hx203_2 := (HB.out.cell (World.block_lt_of_cell? w _ hx203_2)).trans hx203_2
                      replace hx203_3 := (HB.out.cell (World.block_lt_of_cell? w _ hx203_3)).trans hx203_3
                      replace hx203_4 := (HB.out.cell (World.block_lt_of_cell? w _ hx203_4)).trans hx203_4
                      replace hx203_5 := (HB.out.cell (World.block_lt_of_cell? w _ hx203_5)).trans hx203_5
                      have HR203_1 := Aside0.mk hi203_1
                      have HC203_1 := Aside0.mk hl203_1
                      clear hi203_1 hl203_1
                      have HR203_4 := Aside0.mk hi203_4
                      have HC203_4 := Aside0.mk hl203_4
                      clear hi203_4 hl203_4
                      replace p203 := eq_true p203
                      replace q203 := eq_true q203
                      have ea_ := Option.some.inj (hx202_1.symm.trans hx203_1)
                      injection ea_ with ea_ en_ ec_
                      subst ea_
                      subst ec_
                      clear en_
                      have ea_ := Option.some.inj (hx202_4.symm.trans hx203_4)
                      injection ea_ with ea_ en_ ec_
                      subst ea_
                      subst ec_
                      clear en_
                      have p204 : 0 ≤ (x8_2 : Int) := of_decide_eq_true (by first | (with_reducible assumption) | assumption)
                      have q204 : x8_2 < (((rd_T40 l0_0 x6_1).f1).length : Int) := of_decide_eq_true (by first | (with_reducible assumption) | assumption)
                      obtain ⟨ad204, e204, hx204_0⟩ := Kd.at_int HR203_1.out x8_2 p204 q204
                      cases e204
                      replace hx204_0 := (HB.out.cell (World.block_lt_of_cell? w _ hx204_0)).trans hx204_0
                      replace p204 := eq_true p204
                      replace q204 := eq_true q204
                      go_wp2
                      go_roundg k2
                      case measure => have := HK1.out; have := HK2.out; omega
                      case rel => exact ⟨(((rd ((rd_T40 l0_0 x6_1).f1) x8_2) == a1)), (wrap64 (x8_2 + 1)), (by first | rfl | (simp; done) | (simp [*]; done)), (by first | rfl | (simp; done) | (simp [*]; done)), H', ⟨by have := HK1.out; have := HK2.out; omega⟩, ⟨by (with_reducible repeat (first | apply Kd.R_alloc | apply Kd.R_drewN | apply Kd.R_drew)); exact HO_5.out⟩, ⟨by (with_reducible repeat (first | refine blk_drewN ?_ _ | refine blk_drew ?_ | refine blk_alloc ?_ _)); exact BK201.out⟩, ⟨by repeat (first | (with_reducible first | exact HB.out | apply below_alloc | apply pw_below_drewN | apply below_drew1 | refine below_set ?_ GE201.out) | exact HB.out)⟩⟩
                    · rw [if_neg c11] at H
                      exact absurd H (by simp)
                · rw [if_neg c8] at H
                  have c8b0 : decide (x8_2 < (((rd_T40 l0_0 x6_1).f1).length : Int)) = false := decide_eq_false c8
                  clear c8
                  by_cases c13 : x7_2 = true
                  · subst c13
                    have H1 : (if x5_1.length < 17592186044416 then (tidemillref05_Users.l0 k2 a1 (x5_1 ++ [x6_1]) (wrap64 (x6_1 + 1)) l0_0 a0_1) else (none)) = some r := by rw [if_pos rfl] at H; exact H
                    clear H
                    have H := H1
                    clear H1
                    by_cases c14 : x5_1.length < 17592186044416
                    · rw [if_pos c14] at H
                      have LMc14 := Aside0.mk c14
                      clear c14
                      obtain ⟨y205, hy205⟩ : ∃ y_ : List Int, y_ = (x5_1 ++ [x6_1]) := ⟨_, rfl⟩
                      replace H : (tidemillref05_Users.l0 k2 a1 y205 (wrap64 (x6_1 + 1)) l0_0 a0_1) = some r := by first | (rw [hy205]; with_reducible exact H) | (have H2_ := (Option.bind_some _ _).symm.trans H; rw [hy205]; with_reducible exact H2_) | (have H2_ := (Option.bind_some _ _).symm.trans H; with_reducible exact H2_) | with_reducible exact H | (rw [hy205]; exact H) | exact H
                      have Ny205 := Aside0.mk hy205
                      clear hy205
                      have H' := Aside0.mk H
                      clear H
                      have hcz15_0 : wr.cell? ⟨gb201, 0, none⟩ = some (.slice A0_0 l0_0.length c0_0) := (blk_cell BK201.out 0).trans rfl
                      have hcz15_1 : wr.cell? ⟨gb201, 1, none⟩ = some (.int .i64 a0_1) := (blk_cell BK201.out 1).trans rfl
                      have hfz15_0 := blk_frozen BK201.out 0
                      have hfz15_1 := blk_frozen BK201.out 1
                      have p202 : 0 ≤ (x6_1 : Int) := of_decide_eq_true (by first | (with_reducible assumption) | assumption)
                      have q202 : x6_1 < (l0_0.length : Int) := of_decide_eq_true (by first | (with_reducible assumption) | assumption)
                      obtain ⟨ad202, A202_1, c202_1, A202_4, c202_4, e202, hx202_0, hx202_1, hx202_2, hx202_3, hx202_4, hx202_5, hl202_1, hi202_1, hl202_4, hi202_4⟩ := at_T40 HR0_0.out x6_1 p202 q202
                      cases e202
                      replace hx202_0 := (HB.out.cell (World.block_lt_of_cell? w _ hx202_0)).trans hx202_0
                      replace hx202_1 := (HB.out.cell (World.block_lt_of_cell? w _ hx202_1)).trans hx202_1
                      replace hx202_2 := (HB.out.cell (World.block_lt_of_cell? w _ hx202_2)).trans hx202_2
                      replace hx202_3 := (HB.out.cell (World.block_lt_of_cell? w _ hx202_3)).trans hx202_3
                      replace hx202_4 := (HB.out.cell (World.block_lt_of_cell? w _ hx202_4)).trans hx202_4
                      replace hx202_5 := (HB.out.cell (World.block_lt_of_cell? w _ hx202_5)).trans hx202_5
                      have HR202_1 := Aside0.mk hi202_1
                      have HC202_1 := Aside0.mk hl202_1
                      clear hi202_1 hl202_1
                      have HR202_4 := Aside0.mk hi202_4
                      have HC202_4 := Aside0.mk hl202_4
                      clear hi202_4 hl202_4
                      replace p202 := eq_true p202
                      replace q202 := eq_true q202
                      go_wp2_with (first | ((with_reducible refine gate_builtin (b := .append) (xs := #[.tmp 42, .tmp 44]) rfl ?_); at_builtin; refine Kd.R_append (Kd.int .i64) (w0 := w) w.heap.size rfl (.tmp 42) (.tmp 44) 33 3 (.int .i64 0) 8 rfl Try.underlying33 info3 rfl (by decide) (by omega) u5 x5_1 x6_1 [.int .i64 x6_1] (fun _ => True) (fun _ => False) rfl rfl ?aP (fun _ hk => hk.elim) ?aF ?aO ?aB ?aS ?aL ?_; (case aP => exact rfl); (case aB => exact (by repeat (first | (with_reducible first | exact HB.out | apply below_alloc | apply pw_below_drewN | apply below_drew1 | refine below_set ?_ GE201.out) | exact HB.out))); (case aF => exact (fun _ _ => trivial)); (case aO => exact (by (with_reducible repeat (first | apply Kd.R_alloc | apply Kd.R_drewN | apply Kd.R_drew)); exact HO_5.out)); (case aS => exact (below_size (by repeat (first | (with_reducible first | exact HB.out | apply below_alloc | apply pw_below_drewN | apply below_drew1 | refine below_set ?_ GE201.out) | exact HB.out)))); (case aL => have := LMc14.out; omega); intro v206 w16 ho hb hg hat; rw [← Ny205.out] at ho; have n0_ := Aside0.mk (blk_grown (g := gb201) (o := .cells #[.slice (some ad202) l0_0.length c0_0, .int .i64 a0_1] 24 (0, 0)) (by (with_reducible repeat (first | refine blk_drewN ?_ _ | refine blk_drew ?_ | refine blk_alloc ?_ _)); exact BK201.out) hg (Kd.R_ne HO_5.out BK201.out (by decide))); have n1_ := Aside0.mk (hb); have n2_ := Aside0.mk (ho); clear BK201; clear HB; clear HO_5; have BK201 := n0_; have HB := n1_; have HO207 := n2_; clear n0_ n1_ n2_; clear ho hb hg hat))
                      go_roundg k2
                      case measure => have := HK1.out; have := HK2.out; omega
                      case rel => exact ⟨(y205), (wrap64 (x6_1 + 1)), (by first | rfl | (simp; done) | (simp [*]; done)), H', ⟨by have := HK1.out; have := HK2.out; omega⟩, ⟨by (with_reducible repeat (first | apply Kd.R_alloc | apply Kd.R_drewN | apply Kd.R_drew)); exact HO207.out⟩, ⟨by (with_reducible repeat (first | refine blk_drewN ?_ _ | refine blk_drew ?_ | refine blk_alloc ?_ _)); exact BK201.out⟩, ⟨by repeat (first | (with_reducible first | exact HB.out | apply below_alloc | apply pw_below_drewN | apply below_drew1 | refine below_set ?_ GE201.out) | exact HB.out)⟩⟩
                    · rw [if_neg c14] at H
                      exact absurd H (by simp)
                  · replace c13 := Bool.eq_false_iff.mpr c13
                    subst c13
                    have H1 : (tidemillref05_Users.l0 k2 a1 x5_1 (wrap64 (x6_1 + 1)) l0_0 a0_1) = some r := by rw [if_neg (show ¬ (false = true) by decide)] at H; exact H
                    clear H
                    have H := H1
                    clear H1
                    have H' := Aside0.mk H
                    clear H
                    have hcz17_0 : wr.cell? ⟨gb201, 0, none⟩ = some (.slice A0_0 l0_0.length c0_0) := (blk_cell BK201.out 0).trans rfl
                    have hcz17_1 : wr.cell? ⟨gb201, 1, none⟩ = some (.int .i64 a0_1) := (blk_cell BK201.out 1).trans rfl
                    have hfz17_0 := blk_frozen BK201.out 0
                    have hfz17_1 := blk_frozen BK201.out 1
                    have p202 : 0 ≤ (x6_1 : Int) := of_decide_eq_true (by first | (with_reducible assumption) | assumption)
                    have q202 : x6_1 < (l0_0.length : Int) := of_decide_eq_true (by first | (with_reducible assumption) | assumption)
                    obtain ⟨ad202, A202_1, c202_1, A202_4, c202_4, e202, hx202_0, hx202_1, hx202_2, hx202_3, hx202_4, hx202_5, hl202_1, hi202_1, hl202_4, hi202_4⟩ := at_T40 HR0_0.out x6_1 p202 q202
                    cases e202
                    replace hx202_0 := (HB.out.cell (World.block_lt_of_cell? w _ hx202_0)).trans hx202_0
                    replace hx202_1 := (HB.out.cell (World.block_lt_of_cell? w _ hx202_1)).trans hx202_1
                    replace hx202_2 := (HB.out.cell (World.block_lt_of_cell? w _ hx202_2)).trans hx202_2
                    replace hx202_3 := (HB.out.cell (World.block_lt_of_cell? w _ hx202_3)).trans hx202_3
                    replace hx202_4 := (HB.out.cell (World.block_lt_of_cell? w _ hx202_4)).trans hx202_4
                    replace hx202_5 := (HB.out.cell (World.block_lt_of_cell? w _ hx202_5)).trans hx202_5
                    have HR202_1 := Aside0.mk hi202_1
                    have HC202_1 := Aside0.mk hl202_1
                    clear hi202_1 hl202_1
                    have HR202_4 := Aside0.mk hi202_4
                    have HC202_4 := Aside0.mk hl202_4
                    clear hi202_4 hl202_4
                    replace p202 := eq_true p202
                    replace q202 := eq_true q202
                    go_wp2
                    go_roundg k2
                    case measure => have := HK1.out; have := HK2.out; omega
                    case rel => exact ⟨(x5_1), (wrap64 (x6_1 + 1)), (by first | rfl | (simp; done) | (simp [*]; done)), H', ⟨by have := HK1.out; have := HK2.out; omega⟩, ⟨by (with_reducible repeat (first | apply Kd.R_alloc | apply Kd.R_drewN | apply Kd.R_drew)); exact HO_5.out⟩, ⟨by (with_reducible repeat (first | refine blk_drewN ?_ _ | refine blk_drew ?_ | refine blk_alloc ?_ _)); exact BK201.out⟩, ⟨by repeat (first | (with_reducible first | exact HB.out | apply below_alloc | apply pw_below_drewN | apply below_drew1 | refine below_set ?_ GE201.out) | exact HB.out)⟩⟩
              · rw [if_neg c7] at H
                exact absurd H (by simp)
            · rw [if_neg c6] at H
              exact absurd H (by simp)
      · rw [if_neg c4] at H
        have c4b0 : decide (x6_1 < (l0_0.length : Int)) = false := decide_eq_false c4
        clear c4
        obtain rfl := Option.some.inj H
        have hcz18_0 : wr.cell? ⟨gb201, 0, none⟩ = some (.slice A0_0 l0_0.length c0_0) := (blk_cell BK201.out 0).trans rfl
        have hcz18_1 : wr.cell? ⟨gb201, 1, none⟩ = some (.int .i64 a0_1) := (blk_cell BK201.out 1).trans rfl
        have hfz18_0 := blk_frozen BK201.out 0
        have hfz18_1 := blk_frozen BK201.out 1
        go_wp2
        go_ret
        exact ⟨_, by first | rfl | (simp [errW_none, errW_some] <;> rfl) | (simp [*, errW_none, errW_some] <;> rfl), by (with_reducible repeat (first | apply Kd.R_alloc | apply Kd.R_drewN | apply Kd.R_drew)); exact HO_5.out, by repeat (first | (with_reducible first | exact HB.out | apply below_alloc | apply pw_below_drewN | apply below_drew1 | refine below_set ?_ GE201.out) | exact HB.out)⟩

end Go.Proofs.Yteanncfmaomhaaa.Ex
