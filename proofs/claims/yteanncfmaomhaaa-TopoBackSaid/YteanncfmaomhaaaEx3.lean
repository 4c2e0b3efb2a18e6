-- Written by a program of this work (wip/given.py) out of the translation; Lean checks it.
import Derived.Test.YteanncfmaomhaaaEx0
import Derived.Test.YteanncfmaomhaaaWGuard
import Derived.Test.YteanncfmaomhaaaWFoot
import Derived.Test.YteanncfmaomhaaaWN
import Derived.Test.YteanncfmaomhaaaWRepsOne
import Derived.Test.YteanncfmaomhaaaWShare
import Derived.Test.YteanncfmaomhaaaWNEv
import Derived.Test.YteanncfmaomhaaaWKept
import Derived.Test.YteanncfmaomhaaaWApart
import Derived.Test.YteanncfmaomhaaaTpCheck
namespace Go.Proofs.Yteanncfmaomhaaa.Ex
open Go.RowKit Go.Proofs.YteanncfmaomhaaaW.PrintWords Go.Proofs.YteanncfmaomhaaaW.PrintLast Go.Proofs.YteanncfmaomhaaaW.PrintMore
attribute [local go_sem] max2_int min2_int max_two min_two max_three min_three max_four min_four   -- for this text's walks alone
set_option linter.unusedVariables false
set_option linter.unusedSimpArgs false

/-! ### slices_Index_int_int: function 39 -/
def slices_Index_int_int.l0 : Nat → List Int → Int → Int → Int → Option (Int)
  | 0, _, _, _, _ => none
  | k + 1, x0, x1, x7, x8 => if x8 < x7 then (if 0 ≤ x8 then (if x8 < (x0.length : Int) then (if x1 = (rd x0 x8) then (some x8) else (slices_Index_int_int.l0 k x0 x1 x7 (wrap64 (x8 + 1)))) else (none)) else (none)) else (some (-1))
def slices_Index_int_int.f (k : Nat) (l0 : List Int) (a1 : Int) : Option (Int) := slices_Index_int_int.l0 k l0 a1 (l0.length : Int) 0
theorem slices_Index_int_int.mono_l : ∀ k, (∀ y0 y1 y2 y3, LeO (slices_Index_int_int.l0 k y0 y1 y2 y3) (slices_Index_int_int.l0 (k + 1) y0 y1 y2 y3))
  | 0 => fun _ _ _ _ r h => by simp [slices_Index_int_int.l0] at h
  | k + 1 => by
    have ih0 := slices_Index_int_int.mono_l k
    · intro y0 y1 y2 y3
      unfold slices_Index_int_int.l0
      repeat' first
      | (with_reducible exact ih0 _ _ _ _)
      | (with_reducible exact LeO.refl _)
      | (with_reducible exact LeO.none _)
      | (with_reducible refine LeO.ite ?_ ?_)
      | (with_reducible refine LeO.bind ?_ (fun _ => ?_))
      | exact ih0 _ _ _ _
      | exact LeO.none _
      | refine LeO.ite ?_ ?_
      | refine LeO.bind ?_ (fun _ => ?_)
theorem slices_Index_int_int.mono : ∀ a0 a1 k, LeO (slices_Index_int_int.f k a0 a1) (slices_Index_int_int.f (k + 1) a0 a1) := by
  intro a0 a1 k
  have ih0 := slices_Index_int_int.mono_l k
  unfold slices_Index_int_int.f
  repeat' first
      | (with_reducible exact ih0 _ _ _ _)
      | (with_reducible exact LeO.refl _)
      | (with_reducible exact LeO.none _)
      | (with_reducible refine LeO.ite ?_ ?_)
      | (with_reducible refine LeO.bind ?_ (fun _ => ?_))
      | exact ih0 _ _ _ _
      | exact LeO.none _
      | refine LeO.ite ?_ ?_
      | refine LeO.bind ?_ (fun _ => ?_)
set_option maxHeartbeats 8000000 in
set_option maxRecDepth 100000 in
theorem slices_Index_int_int.calls (k : Nat) (A0 : Option Addr) (c0 : Nat) (l0 : List Int) (a1 : Int) (r : Int) (w : World) (hr0 : Kd.C (Kd.int .i64) w A0 l0.length l0) (hc0 : l0.length ≤ c0) (h : slices_Index_int_int.f k l0 a1 = some r) :
    Calls Try.prog 39 #[.slice A0 l0.length c0, .int .i64 a1] w fun e w' => e = .returned (.int .i64 r) ∧ Drawn0 w w' := by
  have HR0 := Aside0.mk hr0
  have HC0 := Aside0.mk hc0
  clear hr0 hc0
  have H : (slices_Index_int_int.l0 k l0 a1 (l0.length : Int) 0) = some r := h
  clear h
  have H' := Aside0.mk H
  clear H
  go_enter Try.func39, Try.ntmps39
  go_wp2
  go_loopg [8] k (fun kq v8 w' => ∃ (x8_1 : Int), v8 = .int .i64 x8_1 ∧ Aside0 (slices_Index_int_int.l0 kq l0 a1 (l0.length : Int) x8_1 = some r) ∧ Aside0 (kq ≤ k) ∧ Drawn0 w w')
  case atStart => exact ⟨(0), (by first | rfl | (simp; done) | (simp [*]; done)), H', ⟨Nat.le_refl _⟩, by repeat (first | exact Drawn0.refl _ | apply Drawn0.step)⟩
  case round =>
    clear H'
    try clear p2
    obtain ⟨x8_1, rfl, HA, HK1, ⟨m1, rfl⟩⟩ := hrel
    cases gk with
    | zero => exact absurd HA.out (by simp [slices_Index_int_int.l0])
    | succ k1 =>
      have H := HA.out
      clear HA
      simp only [slices_Index_int_int.l0] at H
      by_cases c3 : x8_1 < (l0.length : Int)
      · rw [if_pos c3] at H
        have c3b0 : decide (x8_1 < (l0.length : Int)) = true := decide_eq_true c3
        clear c3
        by_cases c4 : 0 ≤ x8_1
        · rw [if_pos c4] at H
          have c4b0 : decide (0 ≤ x8_1) = true := decide_eq_true c4
          clear c4
          by_cases c5 : x8_1 < (l0.length : Int)
          · rw [if_pos c5] at H
            have c5b0 : decide (x8_1 < (l0.length : Int)) = true := decide_eq_true c5
            clear c5
            by_cases c6 : a1 = (rd l0 x8_1)
            · rw [if_pos c6] at H
              have c6b0 : (a1 == (rd l0 x8_1)) = true := beq_iff_eq.mpr c6
              have c6b1 : (a1 != (rd l0 x8_1)) = false := bne_eq_false_iff_eq.mpr c6
              clear c6
              obtain rfl := Option.some.inj H
              have p121 : 0 ≤ (x8_1 : Int) := of_decide_eq_true (by first | (with_reducible assumption) | assumption)
              have q121 : x8_1 < (l0.length : Int) := of_decide_eq_true (by first | (with_reducible assumption) | assumption)
              obtain ⟨ad121, e121, hx121_0⟩ := Kd.at_int HR0.out x8_1 p121 q121
              cases e121
              replace p121 := eq_true p121
              replace q121 := eq_true q121
              go_wp2
              go_ret
              exact ⟨by first | rfl | (simp; done) | (simp [*]; done), by repeat (first | exact Drawn0.refl _ | apply Drawn0.step)⟩
            · rw [if_neg c6] at H
              have c6b0 : (a1 == (rd l0 x8_1)) = false := beq_eq_false_iff_ne.mpr c6
              have c6b1 : (a1 != (rd l0 x8_1)) = true := bne_iff_ne.mpr c6
              have H' := Aside0.mk H
              clear H
              have p121 : 0 ≤ (x8_1 : Int) := of_decide_eq_true (by first | (with_reducible assumption) | assumption)
              have q121 : x8_1 < (l0.length : Int) := of_decide_eq_true (by first | (with_reducible assumption) | assumption)
              obtain ⟨ad121, e121, hx121_0⟩ := Kd.at_int HR0.out x8_1 p121 q121
              cases e121
              replace p121 := eq_true p121
              replace q121 := eq_true q121
              go_wp2
              go_roundg k1
              case measure => have := HK1.out; omega
              case rel => exact ⟨(wrap64 (x8_1 + 1)), (by first | rfl | (simp; done) | (simp [*]; done)), H', ⟨by have := HK1.out; omega⟩, by repeat (first | exact Drawn0.refl _ | apply Drawn0.step)⟩
          · rw [if_neg c5] at H
            exact absurd H (by simp)
        · rw [if_neg c4] at H
          exact absurd H (by simp)
      · rw [if_neg c3] at H
        have c3b0 : decide (x8_1 < (l0.length : Int)) = false := decide_eq_false c3
        clear c3
        obtain rfl := Option.some.inj H
        go_wp2
        go_ret
        exact ⟨by first | rfl | (simp; done) | (simp [*]; done), by repeat (first | exact Drawn0.refl _ | apply Drawn0.step)⟩

/-! ### slices_Contains_int_int: function 22 -/
def slices_Contains_int_int.f (k : Nat) (l0 : List Int) (a1 : Int) : Option (Bool) := (slices_Index_int_int.f k l0 a1).bind fun t122 => (some (decide (t122 ≥ 0)))
theorem slices_Contains_int_int.mono : ∀ a0 a1 k, LeO (slices_Contains_int_int.f k a0 a1) (slices_Contains_int_int.f (k + 1) a0 a1) := by
  intro a0 a1 k
  unfold slices_Contains_int_int.f
  repeat' first
      | (with_reducible exact slices_Index_int_int.mono _ _ _)
      | (with_reducible exact LeO.refl _)
      | (with_reducible exact LeO.none _)
      | (with_reducible refine LeO.ite ?_ ?_)
      | (with_reducible refine LeO.bind ?_ (fun _ => ?_))
      | exact slices_Index_int_int.mono _ _ _
      | exact LeO.none _
      | refine LeO.ite ?_ ?_
      | refine LeO.bind ?_ (fun _ => ?_)
set_option maxHeartbeats 8000000 in
set_option maxRecDepth 100000 in
theorem slices_Contains_int_int.calls (k : Nat) (A0 : Option Addr) (c0 : Nat) (l0 : List Int) (a1 : Int) (r : Bool) (w : World) (hr0 : Kd.C (Kd.int .i64) w A0 l0.length l0) (hc0 : l0.length ≤ c0) (h : slices_Contains_int_int.f k l0 a1 = some r) :
    Calls Try.prog 22 #[.slice A0 l0.length c0, .int .i64 a1] w fun e w' => e = .returned (.bool r) ∧ Drawn0 w w' := by
  have HR0 := Aside0.mk hr0
  have HC0 := Aside0.mk hc0
  clear hr0 hc0
  have H : ((slices_Index_int_int.f k l0 a1).bind fun t122 => (some (decide (t122 ≥ 0)))) = some r := h
  clear h
  replace H := Option.bind_eq_some_iff.mp H
  obtain ⟨t122, A30, H⟩ := H
  replace H : (some (decide (t122 ≥ 0))) = some r := H
  have A3 := Aside0.mk A30
  clear A30
  obtain rfl := Option.some.inj H
  go_enter Try.func22, Try.ntmps22
  go_wp2_with (first | ((with_reducible refine gate_callee (f := 39) rfl ?_); refine goesL_ (some 7) rfl rfl Try.func39 (by kernel_rfl) rfl #[.slice A0 l0.length c0, .int .i64 a1] rfl (by (try simp only [List.map_toArray, List.map_cons, List.map_nil]); first | done | rfl | (simp only [List.length_drop, List.length_take]; rfl)) ?_; (with_reducible refine (slices_Index_int_int.calls k _ _ l0 a1 t122 _ ?side1 ?side2 A3.out).mono ?_); (case side1 => repeat (first | exact HR0.out | (with_reducible refine Kd.C_alloc ?_ _) | (with_reducible refine Kd.C_drewN ?_ _) | (with_reducible refine Kd.C_drew ?_))); (case side2 => exact HC0.out); rintro e w' ⟨rfl, ⟨nd, rfl⟩⟩; refine ⟨_, rfl, ?_⟩))
  go_ret
  exact ⟨by first | rfl | (simp; done) | (simp [*]; done), by repeat (first | exact Drawn0.refl _ | apply Drawn0.step)⟩

/-! ### topo_Users: function 13 -/
def topo_Users.l0 : Nat → Int → List Int → List (S40) → Int → Int → Option (List Int)
  | 0, _, _, _, _, _ => none
  | k + 1, x1, x5, x9, x10, x11 => if x11 < x10 then (if 0 ≤ x11 then (if x11 < (x9.length : Int) then ((slices_Contains_int_int.f k ((rd_T40 x9 x11).f1) x1).bind fun t126 => (if t126 = true then (if x5.length < 17592186044416 then (topo_Users.l0 k x1 (x5 ++ [x11]) x9 x10 (wrap64 (x11 + 1))) else (none)) else (topo_Users.l0 k x1 x5 x9 x10 (wrap64 (x11 + 1))))) else (none)) else (none)) else (some x5)
def topo_Users.f (k : Nat) (l0_0 : List (S40)) (a0_1 : Int) (a1 : Int) : Option (List Int) := topo_Users.l0 k a1 ([] : List Int) l0_0 (l0_0.length : Int) 0
theorem topo_Users.mono_l : ∀ k, (∀ y0 y1 y2 y3 y4, LeO (topo_Users.l0 k y0 y1 y2 y3 y4) (topo_Users.l0 (k + 1) y0 y1 y2 y3 y4))
  | 0 => fun _ _ _ _ _ r h => by simp [topo_Users.l0] at h
  | k + 1 => by
    have ih0 := topo_Users.mono_l k
    · intro y0 y1 y2 y3 y4
      unfold topo_Users.l0
      repeat' first
      | (with_reducible exact ih0 _ _ _ _ _)
      | (with_reducible exact slices_Contains_int_int.mono _ _ _)
      | (with_reducible exact LeO.refl _)
      | (with_reducible exact LeO.none _)
      | (with_reducible refine LeO.ite ?_ ?_)
      | (with_reducible refine LeO.bind ?_ (fun _ => ?_))
      | exact ih0 _ _ _ _ _
      | exact slices_Contains_int_int.mono _ _ _
      | exact LeO.none _
      | refine LeO.ite ?_ ?_
      | refine LeO.bind ?_ (fun _ => ?_)
theorem topo_Users.mono : ∀ a0 a1 a2 k, LeO (topo_Users.f k a0 a1 a2) (topo_Users.f (k + 1) a0 a1 a2) := by
  intro a0 a1 a2 k
  have ih0 := topo_Users.mono_l k
  unfold topo_Users.f
  repeat' first
      | (with_reducible exact ih0 _ _ _ _ _)
      | (with_reducible exact slices_Contains_int_int.mono _ _ _)
      | (with_reducible exact LeO.refl _)
      | (with_reducible exact LeO.none _)
      | (with_reducible refine LeO.ite ?_ ?_)
      | (with_reducible refine LeO.bind ?_ (fun _ => ?_))
      | exact ih0 _ _ _ _ _
      | exact slices_Contains_int_int.mono _ _ _
      | exact LeO.none _
      | refine LeO.ite ?_ ?_
      | refine LeO.bind ?_ (fun _ => ?_)
set_option maxHeartbeats 8000000 in
set_option maxRecDepth 100000 in
theorem topo_Users.calls (k : Nat) (A0_0 : Option Addr) (c0_0 : Nat) (l0_0 : List (S40)) (a0_1 : Int) (a1 : Int) (r : List Int) (w : World) (hr0_0 : Kd.C k40 w A0_0 l0_0.length l0_0) (hc0_0 : l0_0.length ≤ c0_0) (h : topo_Users.f k l0_0 a0_1 a1 = some r) :
    Calls Try.prog 13 #[.agg #[.slice A0_0 l0_0.length c0_0, .int .i64 a0_1], .int .i64 a1] w fun e w' => ∃ v0_ : Value, e = .returned (v0_) ∧ Kd.R (Kd.int .i64) 3 w' w.heap.size (fun _ => True) v0_ r ∧ Below w.heap.size w w' := by
  have hu24 := Try.underlying24
  have hu40 := Try.underlying40
  have HR0_0 := Aside0.mk hr0_0
  have HC0_0 := Aside0.mk hc0_0
  clear hr0_0 hc0_0
  have HB := Aside0.mk (Below.refl w.heap.size w)
  have H : (topo_Users.l0 k a1 ([] : List Int) l0_0 (l0_0.length : Int) 0) = some r := h
  clear h
  have H' := Aside0.mk H
  clear H
  go_enter Try.func13, Try.ntmps13
  go_wp2_with (first | ((with_reducible refine gate_dst (N := 2) rfl ?_); refine box_event ?hg (N := 2) ?hd (cs := #[.slice A0_0 l0_0.length c0_0, .int .i64 a0_1]) (t := 24) ?hr ?_; (case hd => rfl); (case hg => rfl); (case hr => first | (go_simp; done) | (go_simp; rfl)); intro gb123 hg w3 hbox hb; have n0_ := Aside0.mk (below_step (by repeat (first | (with_reducible first | exact HB.out | apply below_alloc | apply pw_below_drewN | apply below_drew1) | exact HB.out)) hb); have n1_ := Aside0.mk (hbox); have n2_ := Aside0.mk ((by rw [hg]; exact (below_size (by repeat (first | (with_reducible first | exact HB.out | apply below_alloc | apply pw_below_drewN | apply below_drew1) | exact HB.out))) : w.heap.size ≤ gb123)); have n3_ := Aside0.mk ((by rw [hg]; exact (below_size (by repeat (first | (with_reducible first | exact HB.out | apply below_alloc | apply pw_below_drewN | apply below_drew1) | exact HB.out))) : w.heap.size ≤ gb123)); clear HB; have HB := n0_; have BK123 := n1_; have GW123 := n2_; have GE123 := n3_; clear n0_ n1_ n2_ n3_; clear hb hbox hg; have hcz4_0 : w3.cell? ⟨gb123, 0, none⟩ = some (.slice A0_0 l0_0.length c0_0) := (blk_cell BK123.out 0).trans rfl; have hcz4_1 : w3.cell? ⟨gb123, 1, none⟩ = some (.int .i64 a0_1) := (blk_cell BK123.out 1).trans rfl; have hfz4_0 := blk_frozen BK123.out 0; have hfz4_1 := blk_frozen BK123.out 1))
  go_loopg [5, 11] k (fun kq v5 v11 w' => ∃ (x5_1 : List Int) (x11_1 : Int), v11 = .int .i64 x11_1 ∧ Aside0 (topo_Users.l0 kq a1 x5_1 l0_0 (l0_0.length : Int) x11_1 = some r) ∧ Aside0 (kq ≤ k) ∧ Aside0 (Kd.R (Kd.int .i64) 3 w' w.heap.size (fun _ => True) v5 x5_1) ∧ Aside0 (w'.heap[gb123]? = some (.cells #[(.slice A0_0 l0_0.length c0_0), .int .i64 a0_1] 24 (0, 0))) ∧ Aside0 (Below w.heap.size w w'))
  case atStart => exact ⟨(([] : List Int)), (0), (by first | rfl | (simp; done) | (simp [*]; done)), H', ⟨Nat.le_refl _⟩, ⟨by first | exact Kd.R_nil _ _ _ _ _ | exact Kd.N_nil _ _ _ _ _ | exact Kd.V_nil _ _ _ _ _ | exact Kd.Q_nil _ _ _ _ _ | exact Kd.S_nil _ _ _ _ _⟩, ⟨by (with_reducible repeat (first | refine blk_drewN ?_ _ | refine blk_drew ?_ | refine blk_alloc ?_ _)); exact BK123.out⟩, ⟨by repeat (first | (with_reducible first | exact HB.out | apply below_alloc | apply pw_below_drewN | apply below_drew1 | refine below_set ?_ GE123.out) | exact HB.out)⟩⟩
  case round =>
    clear H'
    try clear c1
    try clear p2
    try clear hcz4_0
    try clear hcz4_1
    try clear hfz4_0
    try clear hfz4_1
    obtain ⟨x5_1, x11_1, rfl, HA, HK1, HO_5, BK123, HB⟩ := hrel
    cases gk with
    | zero => exact absurd HA.out (by simp [topo_Users.l0])
    | succ k1 =>
      have H := HA.out
      clear HA
      simp only [topo_Users.l0] at H
      by_cases c5 : x11_1 < (l0_0.length : Int)
      · rw [if_pos c5] at H
        have c5b0 : decide (x11_1 < (l0_0.length : Int)) = true := decide_eq_true c5
        clear c5
        by_cases c6 : 0 ≤ x11_1
        · rw [if_pos c6] at H
          have c6b0 : decide (0 ≤ x11_1) = true := decide_eq_true c6
          clear c6
          by_cases c7 : x11_1 < (l0_0.length : Int)
          · rw [if_pos c7] at H
            have c7b0 : decide (x11_1 < (l0_0.length : Int)) = true := decide_eq_true c7
            clear c7
            replace H := Option.bind_eq_some_iff.mp H
            obtain ⟨t126, A80, H⟩ := H
            replace H : (if t126 = true then (if x5_1.length < 17592186044416 then (topo_Users.l0 k1 a1 (x5_1 ++ [x11_1]) l0_0 (l0_0.length : Int) (wrap64 (x11_1 + 1))) else (none)) else (topo_Users.l0 k1 a1 x5_1 l0_0 (l0_0.length : Int) (wrap64 (x11_1 + 1)))) = some r := H
            have A8 := Aside0.mk A80
            clear A80
            by_cases c9 : t126 = true
            · subst c9
              have H1 : (if x5_1.length < 17592186044416 then (topo_Users.l0 k1 a1 (x5_1 ++ [x11_1]) l0_0 (l0_0.length : Int) (wrap64 (x11_1 + 1))) else (none)) = some r := by rw [if_pos rfl] at H; exact H
              clear H
              have H := H1
              clear H1
              by_cases c10 : x5_1.length < 17592186044416
              · rw [if_pos c10] at H
                have LMc10 := Aside0.mk c10
                clear c10
                obtain ⟨y127, hy127⟩ : ∃ y_ : List Int, y_ = (x5_1 ++ [x11_1]) := ⟨_, rfl⟩
                replace H : (topo_Users.l0 k1 a1 y127 l0_0 (l0_0.length : Int) (wrap64 (x11_1 + 1))) = some r := by first | (rw [hy127]; with_reducible exact H) | (have H2_ := (Option.bind_some _ _).symm.trans H; rw [hy127]; with_reducible exact H2_) | (have H2_ := (Option.bind_some _ _).symm.trans H; with_reducible exact H2_) | with_reducible exact H | (rw [hy127]; exact H) | exact H
                have Ny127 := Aside0.mk hy127
                clear hy127
                have H' := Aside0.mk H
                clear H
                have p124 : 0 ≤ (x11_1 : Int) := of_decide_eq_true (by first | (with_reducible assumption) | assumption)
                have q124 : x11_1 < (l0_0.length : Int) := of_decide_eq_true (by first | (with_reducible assumption) | assumption)
                obtain ⟨ad124, A124_1, c124_1, A124_4, c124_4, e124, hx124_0, hx124_1, hx124_2, hx124_3, hx124_4, hx124_5, hl124_1, hi124_1, hl124_4, hi124_4⟩ := at_T40 HR0_0.out x11_1 p124 q124
                cases e124
                replace hx124_0 := (HB.out.cell (World.block_lt_of_cell? w _ hx124_0)).trans hx124_0
                replace hx124_1 := (HB.out.cell (World.block_lt_of_cell? w _ hx124_1)).trans hx124_1
                replace hx124_2 := (HB.out.cell (World.block_lt_of_cell? w _ hx124_2)).trans hx124_2
                replace hx124_3 := (HB.out.cell (World.block_lt_of_cell? w _ hx124_3)).trans hx124_3
                replace hx124_4 := (HB.out.cell (World.block_lt_of_cell? w _ hx124_4)).trans hx124_4
                replace hx124_5 := (HB.out.cell (World.block_lt_of_cell? w _ hx124_5)).trans hx124_5
                have HR124_1 := Aside0.mk hi124_1
                have HC124_1 := Aside0.mk hl124_1
                clear hi124_1 hl124_1
                have HR124_4 := Aside0.mk hi124_4
                have HC124_4 := Aside0.mk hl124_4
                clear hi124_4 hl124_4
                replace p124 := eq_true p124
                replace q124 := eq_true q124
                go_wp2_with (first | ((with_reducible refine gate_dst (N := 7) rfl ?_); refine box_event ?hg (N := 7) ?hd (cs := #[.int .i64 0, .slice none 0 0, .int .i64 0, .int .i64 0, .slice none 0 0, .int .i64 0]) (t := 40) ?hr ?_; (case hd => rfl); (case hg => rfl); (case hr => first | (go_simp; done) | (go_simp; rfl)); intro gb125 hg w11 hbox hb; have n0_ := Aside0.mk (Kd.R_below (by (with_reducible repeat (first | apply Kd.R_alloc | apply Kd.R_drewN | apply Kd.R_drew)); exact HO_5.out) hb); have n1_ := Aside0.mk (blk_below (g := gb123) (o := .cells #[.slice (some ad124) l0_0.length c0_0, .int .i64 a0_1] 24 (0, 0)) (by (with_reducible repeat (first | refine blk_drewN ?_ _ | refine blk_drew ?_ | refine blk_alloc ?_ _)); exact BK123.out) hb); have n2_ := Aside0.mk (below_step (by repeat (first | (with_reducible first | exact HB.out | apply below_alloc | apply pw_below_drewN | apply below_drew1 | refine below_set ?_ GE123.out) | exact HB.out)) hb); have n3_ := Aside0.mk (hbox); have n4_ := Aside0.mk ((by rw [hg]; exact (below_size (by repeat (first | (with_reducible first | exact HB.out | apply below_alloc | apply pw_below_drewN | apply below_drew1 | refine below_set ?_ GE123.out) | exact HB.out))) : w.heap.size ≤ gb125)); have n5_ := Aside0.mk ((by rw [hg]; exact (below_size (by repeat (first | (with_reducible first | exact HB.out | apply below_alloc | apply pw_below_drewN | apply below_drew1 | refine below_set ?_ GE123.out) | exact HB.out))) : w.heap.size ≤ gb125)); have n6_ := Aside0.mk ((by rw [hg]; exact Nat.ne_of_lt (blk_lt (g := gb123) (o := .cells #[.slice (some ad124) l0_0.length c0_0, .int .i64 a0_1] 24 (0, 0)) (by (with_reducible repeat (first | refine blk_drewN ?_ _ | refine blk_drew ?_ | refine blk_alloc ?_ _)); exact BK123.out)) : gb123 ≠ gb125)); have n7_ := Aside0.mk ((by rw [hg]; exact Nat.ne_of_gt (blk_lt (g := gb123) (o := .cells #[.slice (some ad124) l0_0.length c0_0, .int .i64 a0_1] 24 (0, 0)) (by (with_reducible repeat (first | refine blk_drewN ?_ _ | refine blk_drew ?_ | refine blk_alloc ?_ _)); exact BK123.out)) : gb125 ≠ gb123)); clear HO_5; clear BK123; clear HB; have HO_5 := n0_; have BK123 := n1_; have HB := n2_; have BK125 := n3_; have GW125 := n4_; have GE125 := n5_; have NB123_125 := n6_; have NB125_123 := n7_; clear n0_ n1_ n2_ n3_ n4_ n5_ n6_ n7_; clear hb hbox hg; have hnb12 := NB125_123.out; have hnc12 := NB123_125.out; have hcz13_0 : w11.cell? ⟨gb125, 0, none⟩ = some (.int .i64 0) := (blk_cell BK125.out 0).trans rfl; have hcz13_1 : w11.cell? ⟨gb125, 1, none⟩ = some (.slice none 0 0) := (blk_cell BK125.out 1).trans rfl; have hcz13_2 : w11.cell? ⟨gb125, 2, none⟩ = some (.int .i64 0) := (blk_cell BK125.out 2).trans rfl; have hcz13_3 : w11.cell? ⟨gb125, 3, none⟩ = some (.int .i64 0) := (blk_cell BK125.out 3).trans rfl; have hcz13_4 : w11.cell? ⟨gb125, 4, none⟩ = some (.slice none 0 0) := (blk_cell BK125.out 4).trans rfl; have hcz13_5 : w11.cell? ⟨gb125, 5, none⟩ = some (.int .i64 0) := (blk_cell BK125.out 5).trans rfl; have hfz13_0 := blk_frozen BK125.out 0; have hfz13_1 := blk_frozen BK125.out 1; have hfz13_2 := blk_frozen BK125.out 2; have hfz13_3 := blk_frozen BK125.out 3; have hfz13_4 := blk_frozen BK125.out 4; have hfz13_5 := blk_frozen BK125.out 5) | ((with_reducible refine gate_callee (f := 22) rfl ?_); refine goesL_ (some 19) rfl rfl Try.func22 (by kernel_rfl) rfl #[.slice A124_1 ((rd_T40 l0_0 x11_1).f1).length c124_1, .int .i64 a1] rfl (by (try simp only [List.map_toArray, List.map_cons, List.map_nil]); first | done | rfl | (simp only [List.length_drop, List.length_take]; rfl)) ?_; (with_reducible refine (slices_Contains_int_int.calls k1 _ _ ((rd_T40 l0_0 x11_1).f1) a1 true _ ?side1 ?side2 A8.out).mono ?_); (case side1 => exact Kd.C_below HR124_1.out (by repeat (first | (with_reducible first | exact HB.out | apply below_alloc | apply pw_below_drewN | apply below_drew1 | refine below_set ?_ GE123.out | refine below_set ?_ GE125.out) | exact HB.out))); (case side2 => exact HC124_1.out); rintro e w' ⟨rfl, ⟨nd, rfl⟩⟩; refine ⟨_, rfl, ?_⟩) | ((with_reducible refine gate_builtin (b := .append) (xs := #[.tmp 20, .tmp 22]) rfl ?_); at_builtin; refine Kd.R_append (Kd.int .i64) (w0 := w) w.heap.size rfl (.tmp 20) (.tmp 22) 33 3 (.int .i64 0) 8 rfl Try.underlying33 info3 rfl (by decide) (by omega) u5 x5_1 x11_1 [.int .i64 x11_1] (fun _ => True) (fun _ => False) rfl (by first | (go_simp; done) | (go_simp; rfl)) ?aP (fun _ hk => hk.elim) ?aF ?aO ?aB ?aS ?aL ?_; (case aP => exact rfl); (case aB => exact (by repeat (first | (with_reducible first | exact HB.out | apply below_alloc | apply pw_below_drewN | apply below_drew1 | refine below_set ?_ GE123.out | refine below_set ?_ GE125.out) | exact HB.out))); (case aF => exact (fun _ _ => trivial)); (case aO => exact (by (with_reducible repeat (first | apply Kd.R_alloc | apply Kd.R_drewN | apply Kd.R_drew)); exact Kd.R_mono (Kd.R_far (p := ⟨gb125, 5, none⟩) (Kd.R_far (p := ⟨gb125, 4, none⟩) (Kd.R_far (p := ⟨gb125, 3, none⟩) (Kd.R_far (p := ⟨gb125, 2, none⟩) (Kd.R_far (p := ⟨gb125, 1, none⟩) (Kd.R_far (p := ⟨gb125, 0, none⟩) (Kd.R_types HO_5.out BK125.out (by decide)) (fun _ hk => hk.2) (.int .i64 ((rd_T40 l0_0 x11_1).f0))) (fun _ hk => hk.2) (.slice A124_1 ((rd_T40 l0_0 x11_1).f1).length c124_1)) (fun _ hk => hk.2) (.int .i64 ((rd_T40 l0_0 x11_1).f2.f0))) (fun _ hk => hk.2) (.int .i64 ((rd_T40 l0_0 x11_1).f2.f1))) (fun _ hk => hk.2) (.slice A124_4 ((rd_T40 l0_0 x11_1).f2.f2).length c124_4)) (fun _ hk => hk.2) (.int .i64 ((rd_T40 l0_0 x11_1).f3))) (fun _ hk => trivial))); (case aS => exact (below_size (by repeat (first | (with_reducible first | exact HB.out | apply below_alloc | apply pw_below_drewN | apply below_drew1 | refine below_set ?_ GE123.out | refine below_set ?_ GE125.out) | exact HB.out)))); (case aL => have := LMc10.out; omega); intro v128 w14 ho hb hg hat; rw [← Ny127.out] at ho; have n0_ := Aside0.mk (blk_grown (g := gb123) (o := .cells #[.slice (some ad124) l0_0.length c0_0, .int .i64 a0_1] 24 (0, 0)) (by (with_reducible repeat (first | refine blk_drewN ?_ _ | refine blk_drew ?_ | refine blk_alloc ?_ _)); refine blk_far ?_ NB123_125.out _; (with_reducible repeat (first | refine blk_drewN ?_ _ | refine blk_drew ?_ | refine blk_alloc ?_ _)); refine blk_far ?_ NB123_125.out _; (with_reducible repeat (first | refine blk_drewN ?_ _ | refine blk_drew ?_ | refine blk_alloc ?_ _)); refine blk_far ?_ NB123_125.out _; (with_reducible repeat (first | refine blk_drewN ?_ _ | refine blk_drew ?_ | refine blk_alloc ?_ _)); refine blk_far ?_ NB123_125.out _; (with_reducible repeat (first | refine blk_drewN ?_ _ | refine blk_drew ?_ | refine blk_alloc ?_ _)); refine blk_far ?_ NB123_125.out _; (with_reducible repeat (first | refine blk_drewN ?_ _ | refine blk_drew ?_ | refine blk_alloc ?_ _)); refine blk_far ?_ NB123_125.out _; (with_reducible repeat (first | refine blk_drewN ?_ _ | refine blk_drew ?_ | refine blk_alloc ?_ _)); exact BK123.out) hg (Kd.R_ne HO_5.out BK123.out (by decide))); have n1_ := Aside0.mk (blk_grown (g := gb125) (o := .cells #[.int .i64 ((rd_T40 l0_0 x11_1).f0), .slice A124_1 ((rd_T40 l0_0 x11_1).f1).length c124_1, .int .i64 ((rd_T40 l0_0 x11_1).f2.f0), .int .i64 ((rd_T40 l0_0 x11_1).f2.f1), .slice A124_4 ((rd_T40 l0_0 x11_1).f2.f2).length c124_4, .int .i64 ((rd_T40 l0_0 x11_1).f3)] 40 (0, 0)) (by (with_reducible repeat (first | refine blk_drewN ?_ _ | refine blk_drew ?_ | refine blk_alloc ?_ _)); refine blk_put (cs := #[.int .i64 ((rd_T40 l0_0 x11_1).f0), .slice A124_1 ((rd_T40 l0_0 x11_1).f1).length c124_1, .int .i64 ((rd_T40 l0_0 x11_1).f2.f0), .int .i64 ((rd_T40 l0_0 x11_1).f2.f1), .slice A124_4 ((rd_T40 l0_0 x11_1).f2.f2).length c124_4, .int .i64 0]) ?_ 5 _ rfl; (with_reducible repeat (first | refine blk_drewN ?_ _ | refine blk_drew ?_ | refine blk_alloc ?_ _)); refine blk_put (cs := #[.int .i64 ((rd_T40 l0_0 x11_1).f0), .slice A124_1 ((rd_T40 l0_0 x11_1).f1).length c124_1, .int .i64 ((rd_T40 l0_0 x11_1).f2.f0), .int .i64 ((rd_T40 l0_0 x11_1).f2.f1), .slice none 0 0, .int .i64 0]) ?_ 4 _ rfl; (with_reducible repeat (first | refine blk_drewN ?_ _ | refine blk_drew ?_ | refine blk_alloc ?_ _)); refine blk_put (cs := #[.int .i64 ((rd_T40 l0_0 x11_1).f0), .slice A124_1 ((rd_T40 l0_0 x11_1).f1).length c124_1, .int .i64 ((rd_T40 l0_0 x11_1).f2.f0), .int .i64 0, .slice none 0 0, .int .i64 0]) ?_ 3 _ rfl; (with_reducible repeat (first | refine blk_drewN ?_ _ | refine blk_drew ?_ | refine blk_alloc ?_ _)); refine blk_put (cs := #[.int .i64 ((rd_T40 l0_0 x11_1).f0), .slice A124_1 ((rd_T40 l0_0 x11_1).f1).length c124_1, .int .i64 0, .int .i64 0, .slice none 0 0, .int .i64 0]) ?_ 2 _ rfl; (with_reducible repeat (first | refine blk_drewN ?_ _ | refine blk_drew ?_ | refine blk_alloc ?_ _)); refine blk_put (cs := #[.int .i64 ((rd_T40 l0_0 x11_1).f0), .slice none 0 0, .int .i64 0, .int .i64 0, .slice none 0 0, .int .i64 0]) ?_ 1 _ rfl; (with_reducible repeat (first | refine blk_drewN ?_ _ | refine blk_drew ?_ | refine blk_alloc ?_ _)); refine blk_put (cs := #[.int .i64 0, .slice none 0 0, .int .i64 0, .int .i64 0, .slice none 0 0, .int .i64 0]) ?_ 0 _ rfl; (with_reducible repeat (first | refine blk_drewN ?_ _ | refine blk_drew ?_ | refine blk_alloc ?_ _)); exact BK125.out) hg (Kd.R_ne HO_5.out BK125.out (by decide))); have n2_ := Aside0.mk (hb); have n3_ := Aside0.mk (ho); clear BK123; clear BK125; clear HB; clear HO_5; have BK123 := n0_; have BK125 := n1_; have HB := n2_; have HO129 := n3_; clear n0_ n1_ n2_ n3_; clear ho hb hg hat))
                go_roundg k1
                case measure => have := HK1.out; omega
                case rel => exact ⟨(y127), (wrap64 (x11_1 + 1)), (by first | rfl | (simp; done) | (simp [*]; done)), H', ⟨by have := HK1.out; omega⟩, ⟨by (with_reducible repeat (first | apply Kd.R_alloc | apply Kd.R_drewN | apply Kd.R_drew)); exact HO129.out⟩, ⟨by (with_reducible repeat (first | refine blk_drewN ?_ _ | refine blk_drew ?_ | refine blk_alloc ?_ _)); exact BK123.out⟩, ⟨by repeat (first | (with_reducible first | exact HB.out | apply below_alloc | apply pw_below_drewN | apply below_drew1 | refine below_set ?_ GE123.out | refine below_set ?_ GE125.out) | exact HB.out)⟩⟩
              · rw [if_neg c10] at H
                exact absurd H (by simp)
            · replace c9 := Bool.eq_false_iff.mpr c9
              subst c9
              have H1 : (topo_Users.l0 k1 a1 x5_1 l0_0 (l0_0.length : Int) (wrap64 (x11_1 + 1))) = some r := by rw [if_neg (show ¬ (false = true) by decide)] at H; exact H
              clear H
              have H := H1
              clear H1
              have H' := Aside0.mk H
              clear H
              have p124 : 0 ≤ (x11_1 : Int) := of_decide_eq_true (by first | (with_reducible assumption) | assumption)
              have q124 : x11_1 < (l0_0.length : Int) := of_decide_eq_true (by first | (with_reducible assumption) | assumption)
              obtain ⟨ad124, A124_1, c124_1, A124_4, c124_4, e124, hx124_0, hx124_1, hx124_2, hx124_3, hx124_4, hx124_5, hl124_1, hi124_1, hl124_4, hi124_4⟩ := at_T40 HR0_0.out x11_1 p124 q124
              cases e124
              replace hx124_0 := (HB.out.cell (World.block_lt_of_cell? w _ hx124_0)).trans hx124_0
              replace hx124_1 := (HB.out.cell (World.block_lt_of_cell? w _ hx124_1)).trans hx124_1
              replace hx124_2 := (HB.out.cell (World.block_lt_of_cell? w _ hx124_2)).trans hx124_2
              replace hx124_3 := (HB.out.cell (World.block_lt_of_cell? w _ hx124_3)).trans hx124_3
              replace hx124_4 := (HB.out.cell (World.block_lt_of_cell? w _ hx124_4)).trans hx124_4
              replace hx124_5 := (HB.out.cell (World.block_lt_of_cell? w _ hx124_5)).trans hx124_5
              have HR124_1 := Aside0.mk hi124_1
              have HC124_1 := Aside0.mk hl124_1
              clear hi124_1 hl124_1
              have HR124_4 := Aside0.mk hi124_4
              have HC124_4 := Aside0.mk hl124_4
              clear hi124_4 hl124_4
              replace p124 := eq_true p124
              replace q124 := eq_true q124
              go_wp2_with (first | ((with_reducible refine gate_dst (N := 7) rfl ?_); refine box_event ?hg (N := 7) ?hd (cs := #[.int .i64 0, .slice none 0 0, .int .i64 0, .int .i64 0, .slice none 0 0, .int .i64 0]) (t := 40) ?hr ?_; (case hd => rfl); (case hg => rfl); (case hr => first | (go_simp; done) | (go_simp; rfl)); intro gb125 hg w15 hbox hb; have n0_ := Aside0.mk (Kd.R_below (by (with_reducible repeat (first | apply Kd.R_alloc | apply Kd.R_drewN | apply Kd.R_drew)); exact HO_5.out) hb); have n1_ := Aside0.mk (blk_below (g := gb123) (o := .cells #[.slice (some ad124) l0_0.length c0_0, .int .i64 a0_1] 24 (0, 0)) (by (with_reducible repeat (first | refine blk_drewN ?_ _ | refine blk_drew ?_ | refine blk_alloc ?_ _)); exact BK123.out) hb); have n2_ := Aside0.mk (below_step (by repeat (first | (with_reducible first | exact HB.out | apply below_alloc | apply pw_below_drewN | apply below_drew1 | refine below_set ?_ GE123.out) | exact HB.out)) hb); have n3_ := Aside0.mk (hbox); have n4_ := Aside0.mk ((by rw [hg]; exact (below_size (by repeat (first | (with_reducible first | exact HB.out | apply below_alloc | apply pw_below_drewN | apply below_drew1 | refine below_set ?_ GE123.out) | exact HB.out))) : w.heap.size ≤ gb125)); have n5_ := Aside0.mk ((by rw [hg]; exact (below_size (by repeat (first | (with_reducible first | exact HB.out | apply below_alloc | apply pw_below_drewN | apply below_drew1 | refine below_set ?_ GE123.out) | exact HB.out))) : w.heap.size ≤ gb125)); have n6_ := Aside0.mk ((by rw [hg]; exact Nat.ne_of_lt (blk_lt (g := gb123) (o := .cells #[.slice (some ad124) l0_0.length c0_0, .int .i64 a0_1] 24 (0, 0)) (by (with_reducible repeat (first | refine blk_drewN ?_ _ | refine blk_drew ?_ | refine blk_alloc ?_ _)); exact BK123.out)) : gb123 ≠ gb125)); have n7_ := Aside0.mk ((by rw [hg]; exact Nat.ne_of_gt (blk_lt (g := gb123) (o := .cells #[.slice (some ad124) l0_0.length c0_0, .int .i64 a0_1] 24 (0, 0)) (by (with_reducible repeat (first | refine blk_drewN ?_ _ | refine blk_drew ?_ | refine blk_alloc ?_ _)); exact BK123.out)) : gb125 ≠ gb123)); clear HO_5; clear BK123; clear HB; have HO_5 := n0_; have BK123 := n1_; have HB := n2_; have BK125 := n3_; have GW125 := n4_; have GE125 := n5_; have NB123_125 := n6_; have NB125_123 := n7_; clear n0_ n1_ n2_ n3_ n4_ n5_ n6_ n7_; clear hb hbox hg; have hnb16 := NB125_123.out; have hnc16 := NB123_125.out; have hcz17_0 : w15.cell? ⟨gb125, 0, none⟩ = some (.int .i64 0) := (blk_cell BK125.out 0).trans rfl; have hcz17_1 : w15.cell? ⟨gb125, 1, none⟩ = some (.slice none 0 0) := (blk_cell BK125.out 1).trans rfl; have hcz17_2 : w15.cell? ⟨gb125, 2, none⟩ = some (.int .i64 0) := (blk_cell BK125.out 2).trans rfl; have hcz17_3 : w15.cell? ⟨gb125, 3, none⟩ = some (.int .i64 0) := (blk_cell BK125.out 3).trans rfl; have hcz17_4 : w15.cell? ⟨gb125, 4, none⟩ = some (.slice none 0 0) := (blk_cell BK125.out 4).trans rfl; have hcz17_5 : w15.cell? ⟨gb125, 5, none⟩ = some (.int .i64 0) := (blk_cell BK125.out 5).trans rfl; have hfz17_0 := blk_frozen BK125.out 0; have hfz17_1 := blk_frozen BK125.out 1; have hfz17_2 := blk_frozen BK125.out 2; have hfz17_3 := blk_frozen BK125.out 3; have hfz17_4 := blk_frozen BK125.out 4; have hfz17_5 := blk_frozen BK125.out 5) | ((with_reducible refine gate_callee (f := 22) rfl ?_); refine goesL_ (some 19) rfl rfl Try.func22 (by kernel_rfl) rfl #[.slice A124_1 ((rd_T40 l0_0 x11_1).f1).length c124_1, .int .i64 a1] rfl (by (try simp only [List.map_toArray, List.map_cons, List.map_nil]); first | done | rfl | (simp only [List.length_drop, List.length_take]; rfl)) ?_; (with_reducible refine (slices_Contains_int_int.calls k1 _ _ ((rd_T40 l0_0 x11_1).f1) a1 false _ ?side1 ?side2 A8.out).mono ?_); (case side1 => exact Kd.C_below HR124_1.out (by repeat (first | (with_reducible first | exact HB.out | apply below_alloc | apply pw_below_drewN | apply below_drew1 | refine below_set ?_ GE123.out | refine below_set ?_ GE125.out) | exact HB.out))); (case side2 => exact HC124_1.out); rintro e w' ⟨rfl, ⟨nd, rfl⟩⟩; refine ⟨_, rfl, ?_⟩))
              go_roundg k1
              case measure => have := HK1.out; omega
              case rel => exact ⟨(x5_1), (wrap64 (x11_1 + 1)), (by first | rfl | (simp; done) | (simp [*]; done)), H', ⟨by have := HK1.out; omega⟩, ⟨by (with_reducible repeat (first | apply Kd.R_alloc | apply Kd.R_drewN | apply Kd.R_drew)); exact Kd.R_mono (Kd.R_far (p := ⟨gb125, 5, none⟩) (Kd.R_far (p := ⟨gb125, 4, none⟩) (Kd.R_far (p := ⟨gb125, 3, none⟩) (Kd.R_far (p := ⟨gb125, 2, none⟩) (Kd.R_far (p := ⟨gb125, 1, none⟩) (Kd.R_far (p := ⟨gb125, 0, none⟩) (Kd.R_types HO_5.out BK125.out (by decide)) (fun _ hk => hk.2) (.int .i64 ((rd_T40 l0_0 x11_1).f0))) (fun _ hk => hk.2) (.slice A124_1 ((rd_T40 l0_0 x11_1).f1).length c124_1)) (fun _ hk => hk.2) (.int .i64 ((rd_T40 l0_0 x11_1).f2.f0))) (fun _ hk => hk.2) (.int .i64 ((rd_T40 l0_0 x11_1).f2.f1))) (fun _ hk => hk.2) (.slice A124_4 ((rd_T40 l0_0 x11_1).f2.f2).length c124_4)) (fun _ hk => hk.2) (.int .i64 ((rd_T40 l0_0 x11_1).f3))) (fun _ hk => trivial)⟩, ⟨by (with_reducible repeat (first | refine blk_drewN ?_ _ | refine blk_drew ?_ | refine blk_alloc ?_ _)); refine blk_far ?_ NB123_125.out _; (with_reducible repeat (first | refine blk_drewN ?_ _ | refine blk_drew ?_ | refine blk_alloc ?_ _)); refine blk_far ?_ NB123_125.out _; (with_reducible repeat (first | refine blk_drewN ?_ _ | refine blk_drew ?_ | refine blk_alloc ?_ _)); refine blk_far ?_ NB123_125.out _; (with_reducible repeat (first | refine blk_drewN ?_ _ | refine blk_drew ?_ | refine blk_alloc ?_ _)); refine blk_far ?_ NB123_125.out _; (with_reducible repeat (first | refine blk_drewN ?_ _ | refine blk_drew ?_ | refine blk_alloc ?_ _)); refine blk_far ?_ NB123_125.out _; (with_reducible repeat (first | refine blk_drewN ?_ _ | refine blk_drew ?_ | refine blk_alloc ?_ _)); refine blk_far ?_ NB123_125.out _; (with_reducible repeat (first | refine blk_drewN ?_ _ | refine blk_drew ?_ | refine blk_alloc ?_ _)); exact BK123.out⟩, ⟨by repeat (first | (with_reducible first | exact HB.out | apply below_alloc | apply pw_below_drewN | apply below_drew1 | refine below_set ?_ GE123.out | refine below_set ?_ GE125.out) | exact HB.out)⟩⟩
          · rw [if_neg c7] at H
            exact absurd H (by simp)
        · rw [if_neg c6] at H
          exact absurd H (by simp)
      · rw [if_neg c5] at H
        have c5b0 : decide (x11_1 < (l0_0.length : Int)) = false := decide_eq_false c5
        clear c5
        obtain rfl := Option.some.inj H
        go_wp2
        go_ret
        exact ⟨_, by first | rfl | (simp [errW_none, errW_some] <;> rfl) | (simp [*, errW_none, errW_some] <;> rfl), by (with_reducible repeat (first | apply Kd.R_alloc | apply Kd.R_drewN | apply Kd.R_drew)); exact HO_5.out, by repeat (first | (with_reducible first | exact HB.out | apply below_alloc | apply pw_below_drewN | apply below_drew1 | refine below_set ?_ GE123.out) | exact HB.out)⟩

/-! ### tidemilllaw05_chain: function 19 -/
def tidemilllaw05_chain.f  : Option ((List (S40)) × Int) := some ((([(⟨1, ([] : List Int), (⟨0, 0, ([] : List (S38))⟩ : S38), 0⟩ : S40), (⟨6, (([0] : List Int)), (⟨6, 0, (([(⟨5, 0, ([] : List (S38))⟩ : S38), (⟨3, 0, ([] : List (S38))⟩ : S38)] : List (S38)))⟩ : S38), 0⟩ : S40), (⟨10, (([1] : List Int)), (⟨0, 0, ([] : List (S38))⟩ : S38), 0⟩ : S40)] : List (S40))), 2)
set_option maxHeartbeats 8000000 in
set_option maxRecDepth 100000 in
theorem tidemilllaw05_chain.calls  (r1 : List (S40)) (r2 : Int) (w : World) (h : tidemilllaw05_chain.f  = some (r1, r2)) :
    Calls Try.prog 19 #[] w fun e w' => ∃ v0_ : Value, e = .returned (.agg #[v0_, .int .i64 r2]) ∧ Kd.N k40 40 w' w.heap.size (fun k_ => (w.heap.size ≤ k_)) v0_ r1 ∧ Below w.heap.size w w' := by
  have hu24 := Try.underlying24
  have hu38 := Try.underlying38
  have hu40 := Try.underlying40
  have HB := Aside0.mk (Below.refl w.heap.size w)
  have H : (some ((([(⟨1, ([] : List Int), (⟨0, 0, ([] : List (S38))⟩ : S38), 0⟩ : S40), (⟨6, (([0] : List Int)), (⟨6, 0, (([(⟨5, 0, ([] : List (S38))⟩ : S38), (⟨3, 0, ([] : List (S38))⟩ : S38)] : List (S38)))⟩ : S38), 0⟩ : S40), (⟨10, (([1] : List Int)), (⟨0, 0, ([] : List (S38))⟩ : S38), 0⟩ : S40)] : List (S40))), 2)) = some (r1, r2) := h
  clear h
  obtain ⟨y131, hy131⟩ : ∃ y_ : List (S38), y_ = (([(⟨5, 0, ([] : List (S38))⟩ : S38), (⟨3, 0, ([] : List (S38))⟩ : S38)] : List (S38))) := ⟨_, rfl⟩
  replace H : (some ((([(⟨1, ([] : List Int), (⟨0, 0, ([] : List (S38))⟩ : S38), 0⟩ : S40), (⟨6, (([0] : List Int)), (⟨6, 0, y131⟩ : S38), 0⟩ : S40), (⟨10, (([1] : List Int)), (⟨0, 0, ([] : List (S38))⟩ : S38), 0⟩ : S40)] : List (S40))), 2)) = some (r1, r2) := by first | (rw [hy131]; with_reducible exact H) | (have H2_ := (Option.bind_some _ _).symm.trans H; rw [hy131]; with_reducible exact H2_) | (have H2_ := (Option.bind_some _ _).symm.trans H; with_reducible exact H2_) | with_reducible exact H | (rw [hy131]; exact H) | exact H
  have Ny131 := Aside0.mk hy131
  clear hy131
  obtain ⟨y135, hy135⟩ : ∃ y_ : List Int, y_ = (([0] : List Int)) := ⟨_, rfl⟩
  replace H : (some ((([(⟨1, ([] : List Int), (⟨0, 0, ([] : List (S38))⟩ : S38), 0⟩ : S40), (⟨6, y135, (⟨6, 0, y131⟩ : S38), 0⟩ : S40), (⟨10, (([1] : List Int)), (⟨0, 0, ([] : List (S38))⟩ : S38), 0⟩ : S40)] : List (S40))), 2)) = some (r1, r2) := by first | (rw [hy135]; with_reducible exact H) | (have H2_ := (Option.bind_some _ _).symm.trans H; rw [hy135]; with_reducible exact H2_) | (have H2_ := (Option.bind_some _ _).symm.trans H; with_reducible exact H2_) | with_reducible exact H | (rw [hy135]; exact H) | exact H
  have Ny135 := Aside0.mk hy135
  clear hy135
  obtain ⟨y138, hy138⟩ : ∃ y_ : List Int, y_ = (([1] : List Int)) := ⟨_, rfl⟩
  replace H : (some ((([(⟨1, ([] : List Int), (⟨0, 0, ([] : List (S38))⟩ : S38), 0⟩ : S40), (⟨6, y135, (⟨6, 0, y131⟩ : S38), 0⟩ : S40), (⟨10, y138, (⟨0, 0, ([] : List (S38))⟩ : S38), 0⟩ : S40)] : List (S40))), 2)) = some (r1, r2) := by first | (rw [hy138]; with_reducible exact H) | (have H2_ := (Option.bind_some _ _).symm.trans H; rw [hy138]; with_reducible exact H2_) | (have H2_ := (Option.bind_some _ _).symm.trans H; with_reducible exact H2_) | with_reducible exact H | (rw [hy138]; exact H) | exact H
  have Ny138 := Aside0.mk hy138
  clear hy138
  obtain ⟨y141, hy141⟩ : ∃ y_ : List (S40), y_ = (([(⟨1, ([] : List Int), (⟨0, 0, ([] : List (S38))⟩ : S38), 0⟩ : S40), (⟨6, y135, (⟨6, 0, y131⟩ : S38), 0⟩ : S40), (⟨10, y138, (⟨0, 0, ([] : List (S38))⟩ : S38), 0⟩ : S40)] : List (S40))) := ⟨_, rfl⟩
  replace H : (some (y141, 2)) = some (r1, r2) := by first | (rw [hy141]; with_reducible exact H) | (have H2_ := (Option.bind_some _ _).symm.trans H; rw [hy141]; with_reducible exact H2_) | (have H2_ := (Option.bind_some _ _).symm.trans H; with_reducible exact H2_) | with_reducible exact H | (rw [hy141]; exact H) | exact H
  have Ny141 := Aside0.mk hy141
  clear hy141
  simp only [Option.some.injEq, Prod.mk.injEq] at H
  obtain ⟨rfl, rfl⟩ := H
  go_enter Try.func19, Try.ntmps19
  go_wp2_with (first | ((with_reducible refine gate_dst (N := 0) rfl ?_); refine box_event ?hg (N := 0) ?hd (cs := #[.slice none 0 0, .int .i64 0]) (t := 24) ?hr ?_; (case hd => rfl); (case hg => rfl); (case hr => first | (go_simp; done) | (go_simp; rfl)); intro gb130 hg w1 hbox hb; have n0_ := Aside0.mk (below_step (by repeat (first | (with_reducible first | exact HB.out | apply below_alloc | apply pw_below_drewN | apply below_drew1) | exact HB.out)) hb); have n1_ := Aside0.mk (hbox); have n2_ := Aside0.mk ((by rw [hg]; exact (below_size (by repeat (first | (with_reducible first | exact HB.out | apply below_alloc | apply pw_below_drewN | apply below_drew1) | exact HB.out))) : w.heap.size ≤ gb130)); have n3_ := Aside0.mk ((by rw [hg]; exact (below_size (by repeat (first | (with_reducible first | exact HB.out | apply below_alloc | apply pw_below_drewN | apply below_drew1) | exact HB.out))) : w.heap.size ≤ gb130)); clear HB; have HB := n0_; have BK130 := n1_; have GW130 := n2_; have GE130 := n3_; clear n0_ n1_ n2_ n3_; clear hb hbox hg) | ((with_reducible refine gate_dst (N := 4) rfl ?_); refine Kd.N_lit k38 _ 38 ?hg (N' := 4) ?hd (xs := ([(⟨5, 0, ([] : List (S38))⟩ : S38), (⟨3, 0, ([] : List (S38))⟩ : S38)] : List (S38))) (inner := [.int .i64 5, .int .i64 0, .slice none 0 0, .int .i64 3, .int .i64 0, .slice none 0 0]) (ok := (fun k_ => (w.heap.size ≤ k_) ∧ k_ ≠ gb130)) (okp := (fun k_ => (w.heap.size ≤ k_) ∧ k_ ≠ gb130)) ?hr ?hp (fun _ hk => hk) ((show ∀ k_, w1.heap.size ≤ k_ → (fun k_ => (w.heap.size ≤ k_) ∧ k_ ≠ gb130) k_ from fun k_ hk => ⟨(Nat.le_trans (below_size (by repeat (first | (with_reducible first | exact HB.out | apply below_alloc | apply pw_below_drewN | apply below_drew1 | refine below_set ?_ GE130.out) | exact HB.out))) hk), Kd.freshB (g := gb130) (o := .cells #[.slice none 0 0, .int .i64 0] 24 (0, 0)) (by (with_reducible repeat (first | refine blk_drewN ?_ _ | refine blk_drew ?_ | refine blk_alloc ?_ _)); exact BK130.out) k_ hk⟩) _ (Nat.le_refl _)) (Below.refl _ _) (Nat.le_refl _) (by simp) ?_; (case hd => rfl); (case hg => rfl); (case hr => first | (go_simp; done) | (go_simp; rfl)); (case hp => exact (Reps.c3 (show Kd.FK k38 _ _ (⟨5, 0, ([] : List (S38))⟩ : S38) [.int .i64 5, .int .i64 0, .slice none 0 0] from (k38_mkF _ _ (⟨5, 0, ([] : List (S38))⟩ : S38) (Nat.le_refl _) (Kd.F_nil _ _ _))) (Reps.c3 (show Kd.FK k38 _ _ (⟨3, 0, ([] : List (S38))⟩ : S38) [.int .i64 3, .int .i64 0, .slice none 0 0] from (k38_mkF _ _ (⟨3, 0, ([] : List (S38))⟩ : S38) (Nat.le_refl _) (Kd.F_nil _ _ _))) (Reps.none _ _)))); intro v132 w2 ho3 hb hg_ hnew_; clear hg_ hnew_; (first | rw [← Ny131.out] at ho3 | (simp only [Int.reduceToNat] at ho3; rw [← Ny131.out] at ho3)); have n0_ := Aside0.mk (Kd.N_lower ho3 (below_size (by repeat (first | (with_reducible first | exact HB.out | apply below_alloc | apply pw_below_drewN | apply below_drew1 | refine below_set ?_ GE130.out) | exact HB.out)))); have n1_ := Aside0.mk (blk_below (g := gb130) (o := .cells #[.slice none 0 0, .int .i64 0] 24 (0, 0)) (by (with_reducible repeat (first | refine blk_drewN ?_ _ | refine blk_drew ?_ | refine blk_alloc ?_ _)); exact BK130.out) hb); have n2_ := Aside0.mk (below_step (by repeat (first | (with_reducible first | exact HB.out | apply below_alloc | apply pw_below_drewN | apply below_drew1 | refine below_set ?_ GE130.out) | exact HB.out)) hb); clear BK130; clear HB; have HO133 := n0_; have BK130 := n1_; have HB := n2_; clear n0_ n1_ n2_; clear hb ho3; obtain ⟨Ao4, co4, eo4⟩ := Kd.N_slice HO133.out; subst eo4) | ((with_reducible refine gate_dst (N := 1) rfl ?_); refine box_event ?hg (N := 1) ?hd (cs := #[.int .i64 0, .int .i64 0, .slice none 0 0]) (t := 38) ?hr ?_; (case hd => rfl); (case hg => rfl); (case hr => first | (go_simp; done) | (go_simp; rfl)); intro gb134 hg w5 hbox hb; have n0_ := Aside0.mk (Kd.N_below (Kd.N_elderB (by (with_reducible repeat (first | apply Kd.N_alloc | apply Kd.N_drewN | apply Kd.N_drew)); exact HO133.out) gb134 (Nat.le_of_eq hg.symm)) hb); have n1_ := Aside0.mk (blk_below (g := gb130) (o := .cells #[.slice none 0 0, .int .i64 0] 24 (0, 0)) (by (with_reducible repeat (first | refine blk_drewN ?_ _ | refine blk_drew ?_ | refine blk_alloc ?_ _)); exact BK130.out) hb); have n2_ := Aside0.mk (below_step (by repeat (first | (with_reducible first | exact HB.out | apply below_alloc | apply pw_below_drewN | apply below_drew1 | refine below_set ?_ GE130.out) | exact HB.out)) hb); have n3_ := Aside0.mk (hbox); have n4_ := Aside0.mk ((by rw [hg]; exact (below_size (by repeat (first | (with_reducible first | exact HB.out | apply below_alloc | apply pw_below_drewN | apply below_drew1 | refine below_set ?_ GE130.out) | exact HB.out))) : w.heap.size ≤ gb134)); have n5_ := Aside0.mk ((by rw [hg]; exact (below_size (by repeat (first | (with_reducible first | exact HB.out | apply below_alloc | apply pw_below_drewN | apply below_drew1 | refine below_set ?_ GE130.out) | exact HB.out))) : w.heap.size ≤ gb134)); have n6_ := Aside0.mk ((by rw [hg]; exact Nat.ne_of_lt (blk_lt (g := gb130) (o := .cells #[.slice none 0 0, .int .i64 0] 24 (0, 0)) (by (with_reducible repeat (first | refine blk_drewN ?_ _ | refine blk_drew ?_ | refine blk_alloc ?_ _)); exact BK130.out)) : gb130 ≠ gb134)); have n7_ := Aside0.mk ((by rw [hg]; exact Nat.ne_of_gt (blk_lt (g := gb130) (o := .cells #[.slice none 0 0, .int .i64 0] 24 (0, 0)) (by (with_reducible repeat (first | refine blk_drewN ?_ _ | refine blk_drew ?_ | refine blk_alloc ?_ _)); exact BK130.out)) : gb134 ≠ gb130)); clear HO133; clear BK130; clear HB; have HO133 := n0_; have BK130 := n1_; have HB := n2_; have BK134 := n3_; have GW134 := n4_; have GE134 := n5_; have NB130_134 := n6_; have NB134_130 := n7_; clear n0_ n1_ n2_ n3_ n4_ n5_ n6_ n7_; clear hb hbox hg; have hnb6 := NB134_130.out; have hnc6 := NB130_134.out; have hcz7_0 : w5.cell? ⟨gb134, 0, none⟩ = some (.int .i64 0) := (blk_cell BK134.out 0).trans rfl; have hcz7_1 : w5.cell? ⟨gb134, 1, none⟩ = some (.int .i64 0) := (blk_cell BK134.out 1).trans rfl; have hcz7_2 : w5.cell? ⟨gb134, 2, none⟩ = some (.slice none 0 0) := (blk_cell BK134.out 2).trans rfl; have hfz7_0 := blk_frozen BK134.out 0; have hfz7_1 := blk_frozen BK134.out 1; have hfz7_2 := blk_frozen BK134.out 2) | ((with_reducible refine gate_dst (N := 7) rfl ?_); refine Kd.R_lit (Kd.int .i64) _ 3 ?hg (N := 7) ?hd (xs := ([0] : List Int)) (inner := [.int .i64 0]) (ok := fun _ => True) (okp := fun _ => True) ?hr ?hp (fun _ hk => hk) trivial (Below.refl _ _) (Nat.le_refl _) (by simp) ?_; (case hd => rfl); (case hg => rfl); (case hr => first | (go_simp; done) | (go_simp; rfl)); (case hp => exact (Reps.one (show Kd.M (Kd.int .i64) _ _ _ 0 [.int .i64 0] from rfl) (Reps.none _ _))); intro v136 w8 ho9 hb hg_ hnew_; clear hg_ hnew_; (first | rw [← Ny135.out] at ho9 | (simp only [Int.reduceToNat] at ho9; rw [← Ny135.out] at ho9)); have n0_ := Aside0.mk (Kd.N_elder' (by (with_reducible repeat (first | apply Kd.N_alloc | apply Kd.N_drewN | apply Kd.N_drew)); exact (Kd.N_mono (Kd.N_far (p := ⟨gb134, 2, none⟩) (Kd.N_far (p := ⟨gb134, 1, none⟩) (Kd.N_far (p := ⟨gb134, 0, none⟩) (Kd.N_mono HO133.out (fun k_ hk => (⟨hk, hk.2⟩ : _ ∧ k_ ≠ gb134))) (fun _ hk => hk.2) (.int .i64 6)) (fun _ hk => hk.2) (.int .i64 0)) (fun _ hk => hk.2) (.slice Ao4 y131.length co4)) (fun _ h_ => h_.1))) (Kd.R_base ho9) hb); have n1_ := Aside0.mk (Kd.R_lower (Kd.R_newM (M := fun k_ => (w.heap.size ≤ k_)) ho9 (below_size (by repeat (first | (with_reducible first | exact HB.out | apply below_alloc | apply pw_below_drewN | apply below_drew1 | refine below_set ?_ GE130.out | refine below_set ?_ GE134.out) | exact HB.out))) (fun k_ h_ => h_)) (below_size (by repeat (first | (with_reducible first | exact HB.out | apply below_alloc | apply pw_below_drewN | apply below_drew1 | refine below_set ?_ GE130.out | refine below_set ?_ GE134.out) | exact HB.out)))); have n2_ := Aside0.mk (blk_below (g := gb130) (o := .cells #[.slice none 0 0, .int .i64 0] 24 (0, 0)) (by (with_reducible repeat (first | refine blk_drewN ?_ _ | refine blk_drew ?_ | refine blk_alloc ?_ _)); refine blk_far ?_ NB130_134.out _; (with_reducible repeat (first | refine blk_drewN ?_ _ | refine blk_drew ?_ | refine blk_alloc ?_ _)); refine blk_far ?_ NB130_134.out _; (with_reducible repeat (first | refine blk_drewN ?_ _ | refine blk_drew ?_ | refine blk_alloc ?_ _)); refine blk_far ?_ NB130_134.out _; (with_reducible repeat (first | refine blk_drewN ?_ _ | refine blk_drew ?_ | refine blk_alloc ?_ _)); exact BK130.out) hb); have n3_ := Aside0.mk (blk_below (g := gb134) (o := .cells #[.int .i64 6, .int .i64 0, .slice Ao4 y131.length co4] 38 (0, 0)) (by (with_reducible repeat (first | refine blk_drewN ?_ _ | refine blk_drew ?_ | refine blk_alloc ?_ _)); refine blk_put (cs := #[.int .i64 6, .int .i64 0, .slice none 0 0]) ?_ 2 _ rfl; (with_reducible repeat (first | refine blk_drewN ?_ _ | refine blk_drew ?_ | refine blk_alloc ?_ _)); refine blk_put (cs := #[.int .i64 6, .int .i64 0, .slice none 0 0]) ?_ 1 _ rfl; (with_reducible repeat (first | refine blk_drewN ?_ _ | refine blk_drew ?_ | refine blk_alloc ?_ _)); refine blk_put (cs := #[.int .i64 0, .int .i64 0, .slice none 0 0]) ?_ 0 _ rfl; (with_reducible repeat (first | refine blk_drewN ?_ _ | refine blk_drew ?_ | refine blk_alloc ?_ _)); exact BK134.out) hb); have n4_ := Aside0.mk (below_step (by repeat (first | (with_reducible first | exact HB.out | apply below_alloc | apply pw_below_drewN | apply below_drew1 | refine below_set ?_ GE130.out | refine below_set ?_ GE134.out) | exact HB.out)) hb); clear HO133; clear BK130; clear BK134; clear HB; have HO133 := n0_; have HO137 := n1_; have BK130 := n2_; have BK134 := n3_; have HB := n4_; clear n0_ n1_ n2_ n3_ n4_; clear hb ho9; have hcz10_0 : w8.cell? ⟨gb134, 0, none⟩ = some (.int .i64 6) := (blk_cell BK134.out 0).trans rfl; have hcz10_1 : w8.cell? ⟨gb134, 1, none⟩ = some (.int .i64 0) := (blk_cell BK134.out 1).trans rfl; have hcz10_2 : w8.cell? ⟨gb134, 2, none⟩ = some (.slice Ao4 y131.length co4) := (blk_cell BK134.out 2).trans rfl; have hfz10_0 := blk_frozen BK134.out 0; have hfz10_1 := blk_frozen BK134.out 1; have hfz10_2 := blk_frozen BK134.out 2; obtain ⟨Ao11, co11, eo11⟩ := Kd.R_slice HO137.out; subst eo11) | ((with_reducible refine gate_dst (N := 10) rfl ?_); refine Kd.R_lit (Kd.int .i64) _ 3 ?hg (N := 10) ?hd (xs := ([1] : List Int)) (inner := [.int .i64 1]) (ok := fun _ => True) (okp := fun _ => True) ?hr ?hp (fun _ hk => hk) trivial (Below.refl _ _) (Nat.le_refl _) (by simp) ?_; (case hd => rfl); (case hg => rfl); (case hr => first | (go_simp; done) | (go_simp; rfl)); (case hp => exact (Reps.one (show Kd.M (Kd.int .i64) _ _ _ 1 [.int .i64 1] from rfl) (Reps.none _ _))); intro v139 w12 ho13 hb hg_ hnew_; clear hg_ hnew_; (first | rw [← Ny138.out] at ho13 | (simp only [Int.reduceToNat] at ho13; rw [← Ny138.out] at ho13)); have n0_ := Aside0.mk (Kd.N_elder' (by (with_reducible repeat (first | apply Kd.N_alloc | apply Kd.N_drewN | apply Kd.N_drew)); exact HO133.out) (Kd.R_base ho13) hb); have n1_ := Aside0.mk (Kd.R_elder' (by (with_reducible repeat (first | apply Kd.R_alloc | apply Kd.R_drewN | apply Kd.R_drew)); exact HO137.out) (Kd.R_base ho13) hb); have n2_ := Aside0.mk (Kd.R_lower (Kd.R_new' (Kd.R_newM (M := fun k_ => (w.heap.size ≤ k_)) ho13 (below_size (by repeat (first | (with_reducible first | exact HB.out | apply below_alloc | apply pw_below_drewN | apply below_drew1 | refine below_set ?_ GE130.out | refine below_set ?_ GE134.out) | exact HB.out))) (fun k_ h_ => h_)) (Kd.R_lt (by (with_reducible repeat (first | apply Kd.R_alloc | apply Kd.R_drewN | apply Kd.R_drew)); exact HO137.out))) (below_size (by repeat (first | (with_reducible first | exact HB.out | apply below_alloc | apply pw_below_drewN | apply below_drew1 | refine below_set ?_ GE130.out | refine below_set ?_ GE134.out) | exact HB.out)))); have n3_ := Aside0.mk (blk_below (g := gb130) (o := .cells #[.slice none 0 0, .int .i64 0] 24 (0, 0)) (by (with_reducible repeat (first | refine blk_drewN ?_ _ | refine blk_drew ?_ | refine blk_alloc ?_ _)); exact BK130.out) hb); have n4_ := Aside0.mk (blk_below (g := gb134) (o := .cells #[.int .i64 6, .int .i64 0, .slice Ao4 y131.length co4] 38 (0, 0)) (by (with_reducible repeat (first | refine blk_drewN ?_ _ | refine blk_drew ?_ | refine blk_alloc ?_ _)); exact BK134.out) hb); have n5_ := Aside0.mk (below_step (by repeat (first | (with_reducible first | exact HB.out | apply below_alloc | apply pw_below_drewN | apply below_drew1 | refine below_set ?_ GE130.out | refine below_set ?_ GE134.out) | exact HB.out)) hb); clear HO133; clear HO137; clear BK130; clear BK134; clear HB; have HO133 := n0_; have HO137 := n1_; have HO140 := n2_; have BK130 := n3_; have BK134 := n4_; have HB := n5_; clear n0_ n1_ n2_ n3_ n4_ n5_; clear hb ho13; obtain ⟨Ao14, co14, eo14⟩ := Kd.R_slice HO140.out; subst eo14) | ((with_reducible refine gate_dst (N := 12) rfl ?_); refine Kd.N_lit k40 _ 40 ?hg (N' := 12) ?hd (xs := ([(⟨1, ([] : List Int), (⟨0, 0, ([] : List (S38))⟩ : S38), 0⟩ : S40), (⟨6, y135, (⟨6, 0, y131⟩ : S38), 0⟩ : S40), (⟨10, y138, (⟨0, 0, ([] : List (S38))⟩ : S38), 0⟩ : S40)] : List (S40))) (inner := [.int .i64 1, .slice none 0 0, .int .i64 0, .int .i64 0, .slice none 0 0, .int .i64 0, .int .i64 6, .slice Ao11 y135.length co11, .int .i64 6, .int .i64 0, .slice Ao4 y131.length co4, .int .i64 0, .int .i64 10, .slice Ao14 y138.length co14, .int .i64 0, .int .i64 0, .slice none 0 0, .int .i64 0]) (ok := (fun k_ => (w.heap.size ≤ k_) ∧ k_ ≠ gb130 ∧ k_ ≠ gb134)) (okp := (fun k_ => (w.heap.size ≤ k_) ∧ k_ ≠ gb130 ∧ k_ ≠ gb134)) ?hr ?hp (fun _ hk => hk) ((show ∀ k_, w12.heap.size ≤ k_ → (fun k_ => (w.heap.size ≤ k_) ∧ k_ ≠ gb130 ∧ k_ ≠ gb134) k_ from fun k_ hk => ⟨(Nat.le_trans (below_size (by repeat (first | (with_reducible first | exact HB.out | apply below_alloc | apply pw_below_drewN | apply below_drew1 | refine below_set ?_ GE130.out | refine below_set ?_ GE134.out) | exact HB.out))) hk), Kd.freshB (g := gb130) (o := .cells #[.slice none 0 0, .int .i64 0] 24 (0, 0)) (by (with_reducible repeat (first | refine blk_drewN ?_ _ | refine blk_drew ?_ | refine blk_alloc ?_ _)); exact BK130.out) k_ hk, Kd.freshB (g := gb134) (o := .cells #[.int .i64 6, .int .i64 0, .slice Ao4 y131.length co4] 38 (0, 0)) (by (with_reducible repeat (first | refine blk_drewN ?_ _ | refine blk_drew ?_ | refine blk_alloc ?_ _)); exact BK134.out) k_ hk⟩) _ (Nat.le_refl _)) (Below.refl _ _) (Nat.le_refl _) (by simp) ?_; (case hd => rfl); (case hg => rfl); (case hr => first | (go_simp; done) | (go_simp; rfl)); (case hp => exact (Reps.c6 (show Kd.FK k40 _ _ (⟨1, ([] : List Int), (⟨0, 0, ([] : List (S38))⟩ : S38), 0⟩ : S40) [.int .i64 1, .slice none 0 0, .int .i64 0, .int .i64 0, .slice none 0 0, .int .i64 0] from (k40_mkF _ _ (⟨1, ([] : List Int), (⟨0, 0, ([] : List (S38))⟩ : S38), 0⟩ : S40) (Nat.le_refl _) (Kd.F_nil _ _ _) (Nat.le_refl _) (Kd.F_nil _ _ _))) (Reps.c6 (show Kd.FK k40 _ _ (⟨6, y135, (⟨6, 0, y131⟩ : S38), 0⟩ : S40) [.int .i64 6, .slice Ao11 y135.length co11, .int .i64 6, .int .i64 0, .slice Ao4 y131.length co4, .int .i64 0] from (k40_mkF _ _ (⟨6, y135, (⟨6, 0, y131⟩ : S38), 0⟩ : S40) (Kd.R_reads' (Kd.R_mono (ok' := (fun k_ => (w.heap.size ≤ k_) ∧ k_ ≠ gb130 ∧ k_ ≠ gb134)) (Kd.R_types (Kd.R_types (HO137.out) BK130.out (by decide)) BK134.out (by decide)) (fun k_ hk => ⟨hk.1.1.1.1, ⟨hk.1.2, hk.2⟩⟩))).2.1 (Kd.R_F (Kd.R_mono (ok' := (fun k_ => (w.heap.size ≤ k_) ∧ k_ ≠ gb130 ∧ k_ ≠ gb134)) (Kd.R_types (Kd.R_types (HO137.out) BK130.out (by decide)) BK134.out (by decide)) (fun k_ hk => ⟨hk.1.1.1.1, ⟨hk.1.2, hk.2⟩⟩))) (Kd.N_reads' (Kd.N_mono (ok' := (fun k_ => (w.heap.size ≤ k_) ∧ k_ ≠ gb130 ∧ k_ ≠ gb134)) (HO133.out) (fun k_ hk => ⟨hk.1.1.1.1, ⟨hk.1.1.1.2, hk.1.1.2⟩⟩))).2.1 (Kd.N_F (Kd.N_mono (ok' := (fun k_ => (w.heap.size ≤ k_) ∧ k_ ≠ gb130 ∧ k_ ≠ gb134)) (HO133.out) (fun k_ hk => ⟨hk.1.1.1.1, ⟨hk.1.1.1.2, hk.1.1.2⟩⟩))))) (Reps.c6 (show Kd.FK k40 _ _ (⟨10, y138, (⟨0, 0, ([] : List (S38))⟩ : S38), 0⟩ : S40) [.int .i64 10, .slice Ao14 y138.length co14, .int .i64 0, .int .i64 0, .slice none 0 0, .int .i64 0] from (k40_mkF _ _ (⟨10, y138, (⟨0, 0, ([] : List (S38))⟩ : S38), 0⟩ : S40) (Kd.R_reads' (Kd.R_mono (ok' := (fun k_ => (w.heap.size ≤ k_) ∧ k_ ≠ gb130 ∧ k_ ≠ gb134)) (Kd.R_types (Kd.R_types (HO140.out) BK130.out (by decide)) BK134.out (by decide)) (fun k_ hk => ⟨hk.1.1.1.1, ⟨hk.1.2, hk.2⟩⟩))).2.1 (Kd.R_F (Kd.R_mono (ok' := (fun k_ => (w.heap.size ≤ k_) ∧ k_ ≠ gb130 ∧ k_ ≠ gb134)) (Kd.R_types (Kd.R_types (HO140.out) BK130.out (by decide)) BK134.out (by decide)) (fun k_ hk => ⟨hk.1.1.1.1, ⟨hk.1.2, hk.2⟩⟩))) (Nat.le_refl _) (Kd.F_nil _ _ _))) (Reps.none _ _))))); intro v142 w15 ho16 hb hg_ hnew_; clear hg_ hnew_; (first | rw [← Ny141.out] at ho16 | (simp only [Int.reduceToNat] at ho16; rw [← Ny141.out] at ho16)); have n0_ := Aside0.mk (Kd.N_lower ho16 (below_size (by repeat (first | (with_reducible first | exact HB.out | apply below_alloc | apply pw_below_drewN | apply below_drew1 | refine below_set ?_ GE130.out | refine below_set ?_ GE134.out) | exact HB.out)))); have n1_ := Aside0.mk (blk_below (g := gb130) (o := .cells #[.slice none 0 0, .int .i64 0] 24 (0, 0)) (by (with_reducible repeat (first | refine blk_drewN ?_ _ | refine blk_drew ?_ | refine blk_alloc ?_ _)); exact BK130.out) hb); have n2_ := Aside0.mk (blk_below (g := gb134) (o := .cells #[.int .i64 6, .int .i64 0, .slice Ao4 y131.length co4] 38 (0, 0)) (by (with_reducible repeat (first | refine blk_drewN ?_ _ | refine blk_drew ?_ | refine blk_alloc ?_ _)); exact BK134.out) hb); have n3_ := Aside0.mk (below_step (by repeat (first | (with_reducible first | exact HB.out | apply below_alloc | apply pw_below_drewN | apply below_drew1 | refine below_set ?_ GE130.out | refine below_set ?_ GE134.out) | exact HB.out)) hb); clear BK130; clear BK134; clear HB; clear HO133; clear HO137; clear HO140; have HO143 := n0_; have BK130 := n1_; have BK134 := n2_; have HB := n3_; clear n0_ n1_ n2_ n3_; clear hb ho16; obtain ⟨Ao17, co17, eo17⟩ := Kd.N_slice HO143.out; subst eo17; have hcz18_0 : w15.cell? ⟨gb130, 0, none⟩ = some (.slice none 0 0) := (blk_cell BK130.out 0).trans rfl; have hcz18_1 : w15.cell? ⟨gb130, 1, none⟩ = some (.int .i64 0) := (blk_cell BK130.out 1).trans rfl; have hfz18_0 := blk_frozen BK130.out 0; have hfz18_1 := blk_frozen BK130.out 1))
  refine bodyPost_ret (results_cell_row rfl _ _ gb130 24 #[.slice Ao17 y141.length co17, .int .i64 2] (0, 0) _ rfl (by (with_reducible repeat (first | refine blk_drewN ?_ _ | refine blk_drew ?_ | refine blk_alloc ?_ _)); refine blk_put (cs := #[.slice Ao17 y141.length co17, .int .i64 0]) ?_ 1 _ rfl; (with_reducible repeat (first | refine blk_drewN ?_ _ | refine blk_drew ?_ | refine blk_alloc ?_ _)); refine blk_put (cs := #[.slice none 0 0, .int .i64 0]) ?_ 0 _ rfl; (with_reducible repeat (first | refine blk_drewN ?_ _ | refine blk_drew ?_ | refine blk_alloc ?_ _)); exact BK130.out) Try.underlying24 rfl (by kernel_rfl)) rfl ?_
  exact ⟨_, by first | rfl | (simp [errW_none, errW_some] <;> rfl) | (simp [*, errW_none, errW_some] <;> rfl), by (with_reducible repeat (first | apply Kd.N_alloc | apply Kd.N_drewN | apply Kd.N_drew)); exact Kd.N_mono (Kd.N_far (p := ⟨gb130, 1, none⟩) (Kd.N_far (p := ⟨gb130, 0, none⟩) (Kd.N_mono HO143.out (fun k_ hk => (⟨hk, hk.2.1⟩ : _ ∧ k_ ≠ gb130))) (fun _ hk => hk.2) (.slice Ao17 y141.length co17)) (fun _ hk => hk.2) (.int .i64 2)) (fun _ hk => hk.1.1), by repeat (first | (with_reducible first | exact HB.out | apply below_alloc | apply pw_below_drewN | apply below_drew1 | refine below_set ?_ GE130.out | refine below_set ?_ GE134.out) | exact HB.out)⟩

/-! ### tidemilllaw05_shown: function 8 -/
def tidemilllaw05_shown.f (k : Nat)  : Option (Bool) := (tidemilllaw05_chain.f).bind fun bt144 => ((topo_Check.f bt144.1 bt144.2).bind fun bt149 => (if bt144.1.length < 1759218604441 then ((some (bt144.1 ++ [(⟨10, (([2] : List Int)), (⟨0, 0, ([] : List (S38))⟩ : S38), 1⟩ : S40)] : List (S40))).bind fun y154 => ((topo_Check.f y154 bt144.2).bind fun bt157 => (if bt149.1 = (-1) then (if bt149.2 = 0 then (if bt157.1 = 3 then (if bt157.2 = 5 then ((topo_Users.f k y154 bt144.2 1).bind fun t159 => (some ((t159.length : Int) == 1))) else (some false)) else (some false)) else (some false)) else (some false)))) else (none)))
theorem tidemilllaw05_shown.mono : ∀ k, LeO (tidemilllaw05_shown.f k ) (tidemilllaw05_shown.f (k + 1) ) := by
  intro  k
  unfold tidemilllaw05_shown.f
  repeat' first
      | (with_reducible exact topo_Users.mono _ _ _ _)
      | (with_reducible exact LeO.refl _)
      | (with_reducible exact LeO.none _)
      | (with_reducible refine LeO.ite ?_ ?_)
      | (with_reducible refine LeO.bind ?_ (fun _ => ?_))
      | exact topo_Users.mono _ _ _ _
      | exact LeO.none _
      | refine LeO.ite ?_ ?_
      | refine LeO.bind ?_ (fun _ => ?_)
set_option maxHeartbeats 8000000 in
set_option maxRecDepth 100000 in
theorem tidemilllaw05_shown.calls (k : Nat)  (r : Bool) (w : World) (h : tidemilllaw05_shown.f k  = some r) :
    Calls Try.prog 8 #[] w fun e w' => e = .returned (.bool r) ∧ Below w.heap.size w w' := by
  have hu24 := Try.underlying24
  have hu40 := Try.underlying40
  have HB := Aside0.mk (Below.refl w.heap.size w)
  have H : ((tidemilllaw05_chain.f).bind fun bt144 => ((topo_Check.f bt144.1 bt144.2).bind fun bt149 => (if bt144.1.length < 1759218604441 then ((some (bt144.1 ++ [(⟨10, (([2] : List Int)), (⟨0, 0, ([] : List (S38))⟩ : S38), 1⟩ : S40)] : List (S40))).bind fun y154 => ((topo_Check.f y154 bt144.2).bind fun bt157 => (if bt149.1 = (-1) then (if bt149.2 = 0 then (if bt157.1 = 3 then (if bt157.2 = 5 then ((topo_Users.f k y154 bt144.2 1).bind fun t159 => (some ((t159.length : Int) == 1))) else (some false)) else (some false)) else (some false)) else (some false)))) else (none)))) = some r := h
  clear h
  replace H := Option.bind_eq_some_iff.mp H
  obtain ⟨⟨t144, t147⟩, A10, H⟩ := H
  replace H : ((topo_Check.f t144 t147).bind fun bt149 => (if t144.length < 1759218604441 then ((some (t144 ++ [(⟨10, (([2] : List Int)), (⟨0, 0, ([] : List (S38))⟩ : S38), 1⟩ : S40)] : List (S40))).bind fun y154 => ((topo_Check.f y154 t147).bind fun bt157 => (if bt149.1 = (-1) then (if bt149.2 = 0 then (if bt157.1 = 3 then (if bt157.2 = 5 then ((topo_Users.f k y154 t147 1).bind fun t159 => (some ((t159.length : Int) == 1))) else (some false)) else (some false)) else (some false)) else (some false)))) else (none))) = some r := H
  have A1 := Aside0.mk A10
  clear A10
  replace H := Option.bind_eq_some_iff.mp H
  obtain ⟨⟨t149, t150⟩, A20, H⟩ := H
  replace H : (if t144.length < 1759218604441 then ((some (t144 ++ [(⟨10, (([2] : List Int)), (⟨0, 0, ([] : List (S38))⟩ : S38), 1⟩ : S40)] : List (S40))).bind fun y154 => ((topo_Check.f y154 t147).bind fun bt157 => (if t149 = (-1) then (if t150 = 0 then (if bt157.1 = 3 then (if bt157.2 = 5 then ((topo_Users.f k y154 t147 1).bind fun t159 => (some ((t159.length : Int) == 1))) else (some false)) else (some false)) else (some false)) else (some false)))) else (none)) = some r := H
  have A2 := Aside0.mk A20
  clear A20
  obtain ⟨y151, hy151⟩ : ∃ y_ : List Int, y_ = (([2] : List Int)) := ⟨_, rfl⟩
  replace H : (if t144.length < 1759218604441 then ((some (t144 ++ [(⟨10, y151, (⟨0, 0, ([] : List (S38))⟩ : S38), 1⟩ : S40)] : List (S40))).bind fun y154 => ((topo_Check.f y154 t147).bind fun bt157 => (if t149 = (-1) then (if t150 = 0 then (if bt157.1 = 3 then (if bt157.2 = 5 then ((topo_Users.f k y154 t147 1).bind fun t159 => (some ((t159.length : Int) == 1))) else (some false)) else (some false)) else (some false)) else (some false)))) else (none)) = some r := by first | (rw [hy151]; with_reducible exact H) | (have H2_ := (Option.bind_some _ _).symm.trans H; rw [hy151]; with_reducible exact H2_) | (have H2_ := (Option.bind_some _ _).symm.trans H; with_reducible exact H2_) | with_reducible exact H | (rw [hy151]; exact H) | exact H
  have Ny151 := Aside0.mk hy151
  clear hy151
  by_cases c3 : t144.length < 1759218604441
  · rw [if_pos c3] at H
    have LMc3 := Aside0.mk c3
    clear c3
    obtain ⟨y154, hy154⟩ : ∃ y_ : List (S40), y_ = (t144 ++ [(⟨10, y151, (⟨0, 0, ([] : List (S38))⟩ : S38), 1⟩ : S40)]) := ⟨_, rfl⟩
    replace H : ((topo_Check.f y154 t147).bind fun bt157 => (if t149 = (-1) then (if t150 = 0 then (if bt157.1 = 3 then (if bt157.2 = 5 then ((topo_Users.f k y154 t147 1).bind fun t159 => (some ((t159.length : Int) == 1))) else (some false)) else (some false)) else (some false)) else (some false))) = some r := by first | (rw [hy154]; with_reducible exact H) | (have H2_ := (Option.bind_some _ _).symm.trans H; rw [hy154]; with_reducible exact H2_) | (have H2_ := (Option.bind_some _ _).symm.trans H; with_reducible exact H2_) | with_reducible exact H | (rw [hy154]; exact H) | exact H
    have Ny154 := Aside0.mk hy154
    clear hy154
    replace H := Option.bind_eq_some_iff.mp H
    obtain ⟨⟨t157, t158⟩, A40, H⟩ := H
    replace H : (if t149 = (-1) then (if t150 = 0 then (if t157 = 3 then (if t158 = 5 then ((topo_Users.f k y154 t147 1).bind fun t159 => (some ((t159.length : Int) == 1))) else (some false)) else (some false)) else (some false)) else (some false)) = some r := H
    have A4 := Aside0.mk A40
    clear A40
    by_cases c5 : t149 = (-1)
    · rw [if_pos c5] at H
      have c5b0 : (t149 == (-1)) = true := beq_iff_eq.mpr c5
      have c5b1 : (t149 != (-1)) = false := bne_eq_false_iff_eq.mpr c5
      clear c5
      by_cases c6 : t150 = 0
      · rw [if_pos c6] at H
        have c6b0 : (t150 == 0) = true := beq_iff_eq.mpr c6
        have c6b1 : (t150 != 0) = false := bne_eq_false_iff_eq.mpr c6
        clear c6
        by_cases c7 : t157 = 3
        · rw [if_pos c7] at H
          have c7b0 : (t157 == 3) = true := beq_iff_eq.mpr c7
          have c7b1 : (t157 != 3) = false := bne_eq_false_iff_eq.mpr c7
          clear c7
          by_cases c8 : t158 = 5
          · rw [if_pos c8] at H
            have c8b0 : (t158 == 5) = true := beq_iff_eq.mpr c8
            have c8b1 : (t158 != 5) = false := bne_eq_false_iff_eq.mpr c8
            clear c8
            replace H := Option.bind_eq_some_iff.mp H
            obtain ⟨t159, A90, H⟩ := H
            replace H : (some ((t159.length : Int) == 1)) = some r := H
            have A9 := Aside0.mk A90
            clear A90
            obtain rfl := Option.some.inj H
            go_enter Try.func8, Try.ntmps8
            go_wp2_with (first | ((with_reducible refine gate_callee (f := 19) rfl ?_); refine goesL_ (some 6) rfl rfl Try.func19 (by kernel_rfl) rfl #[] rfl (by (try simp only [List.map_toArray, List.map_cons, List.map_nil]); first | done | rfl | (simp only [List.length_drop, List.length_take]; rfl)) ?_; (with_reducible refine (tidemilllaw05_chain.calls  t144 t147 _ A1.out).mono ?_); rintro e w10 ⟨v145, rfl, ho0, hb⟩; refine ⟨_, rfl, ?_⟩; have n0_ := Aside0.mk (Kd.N_lower (Kd.N_mono (ok' := fun k_ => True) ho0 (fun k_ hk_ => trivial)) (below_size (by repeat (first | (with_reducible first | exact HB.out | apply below_alloc | apply pw_below_drewN | apply below_drew1) | exact HB.out)))); have n1_ := Aside0.mk (below_step (by repeat (first | (with_reducible first | exact HB.out | apply below_alloc | apply pw_below_drewN | apply below_drew1) | exact HB.out)) hb); clear HB; have HO146 := n0_; have HB := n1_; clear n0_ n1_; (try clear hb); (try clear hb2); (try clear hk); (try clear hi); (try clear ho0)) | ((with_reducible refine gate_dst (N := 1) rfl ?_); (try (refine gate_guard (by rfl) ?_; dsimp only)); refine box_event ?hg (N := 1) ?hd (cs := #[.slice none 0 0, .int .i64 0]) (t := 24) ?hr ?_; (case hd => rfl); (case hg => rfl); (case hr => first | (go_simp; done) | (go_simp; rfl)); intro gb148 hg w11 hbox hb; have n0_ := Aside0.mk (Kd.N_below (Kd.N_elderB (by (with_reducible repeat (first | apply Kd.N_alloc | apply Kd.N_drewN | apply Kd.N_drew)); exact HO146.out) gb148 (Nat.le_of_eq hg.symm)) hb); have n1_ := Aside0.mk (below_step (by repeat (first | (with_reducible first | exact HB.out | apply below_alloc | apply pw_below_drewN | apply below_drew1) | exact HB.out)) hb); have n2_ := Aside0.mk (hbox); have n3_ := Aside0.mk ((by rw [hg]; exact (below_size (by repeat (first | (with_reducible first | exact HB.out | apply below_alloc | apply pw_below_drewN | apply below_drew1) | exact HB.out))) : w.heap.size ≤ gb148)); have n4_ := Aside0.mk ((by rw [hg]; exact (below_size (by repeat (first | (with_reducible first | exact HB.out | apply below_alloc | apply pw_below_drewN | apply below_drew1) | exact HB.out))) : w.heap.size ≤ gb148)); clear HO146; clear HB; have HO146 := n0_; have HB := n1_; have BK148 := n2_; have GW148 := n3_; have GE148 := n4_; clear n0_ n1_ n2_ n3_ n4_; clear hb hbox hg; obtain ⟨Ao12, co12, eo12⟩ := Kd.N_slice HO146.out; subst eo12; have hcz13_0 : w11.cell? ⟨gb148, 0, none⟩ = some (.slice none 0 0) := (blk_cell BK148.out 0).trans rfl; have hcz13_1 : w11.cell? ⟨gb148, 1, none⟩ = some (.int .i64 0) := (blk_cell BK148.out 1).trans rfl; have hfz13_0 := blk_frozen BK148.out 0; have hfz13_1 := blk_frozen BK148.out 1) | ((with_reducible refine gate_callee (f := 10) rfl ?_); refine goesL_ (some 9) rfl rfl Try.func10 (by kernel_rfl) rfl #[.agg #[.slice Ao12 t144.length co12, .int .i64 t147]] rfl (by (try simp only [List.map_toArray, List.map_cons, List.map_nil]); first | done | rfl | (simp only [List.length_drop, List.length_take]; rfl)) ?_; (with_reducible refine (topo_Check.calls _ _ t144 t147 t149 t150 _ ?side1 ?side2 A2.out).mono ?_); (case side1 => refine (Kd.N_reads' (e := 40) (base := w.heap.size) (ok := fun k_ => (True ∧ k_ ≠ gb148)) (n := t144.length) (c := co12) ?_).2.2; exact (by (with_reducible repeat (first | apply Kd.N_alloc | apply Kd.N_drewN | apply Kd.N_drew)); exact (Kd.N_mono (Kd.N_far (p := ⟨gb148, 1, none⟩) (Kd.N_far (p := ⟨gb148, 0, none⟩) (Kd.N_mono HO146.out (fun k_ hk => (⟨hk, hk.2⟩ : _ ∧ k_ ≠ gb148))) (fun _ hk => hk.2) (.slice Ao12 t144.length co12)) (fun _ hk => hk.2) (.int .i64 t147)) (fun _ h_ => h_.1)))); (case side2 => exact (Kd.N_reads' HO146.out).2.1); rintro e w14 ⟨rfl, hb⟩; refine ⟨_, rfl, ?_⟩; have n0_ := Aside0.mk (Kd.N_below (by (with_reducible repeat (first | apply Kd.N_alloc | apply Kd.N_drewN | apply Kd.N_drew)); exact (Kd.N_mono (Kd.N_far (p := ⟨gb148, 1, none⟩) (Kd.N_far (p := ⟨gb148, 0, none⟩) (Kd.N_mono HO146.out (fun k_ hk => (⟨hk, hk.2⟩ : _ ∧ k_ ≠ gb148))) (fun _ hk => hk.2) (.slice Ao12 t144.length co12)) (fun _ hk => hk.2) (.int .i64 t147)) (fun _ h_ => h_.1))) hb); have n1_ := Aside0.mk (blk_below (g := gb148) (o := .cells #[.slice Ao12 t144.length co12, .int .i64 t147] 24 (0, 0)) (by (with_reducible repeat (first | refine blk_drewN ?_ _ | refine blk_drew ?_ | refine blk_alloc ?_ _)); refine blk_put (cs := #[.slice Ao12 t144.length co12, .int .i64 0]) ?_ 1 _ rfl; (with_reducible repeat (first | refine blk_drewN ?_ _ | refine blk_drew ?_ | refine blk_alloc ?_ _)); refine blk_put (cs := #[.slice none 0 0, .int .i64 0]) ?_ 0 _ rfl; (with_reducible repeat (first | refine blk_drewN ?_ _ | refine blk_drew ?_ | refine blk_alloc ?_ _)); exact BK148.out) hb); have n2_ := Aside0.mk (below_step (by repeat (first | (with_reducible first | exact HB.out | apply below_alloc | apply pw_below_drewN | apply below_drew1 | refine below_set ?_ GE148.out) | exact HB.out)) hb); clear HO146; clear BK148; clear HB; have HO146 := n0_; have BK148 := n1_; have HB := n2_; clear n0_ n1_ n2_; (try clear hb); (try clear hb2); (try clear hk); (try clear hi); have hcz15_0 : w14.cell? ⟨gb148, 0, none⟩ = some (.slice Ao12 t144.length co12) := (blk_cell BK148.out 0).trans rfl; have hcz15_1 : w14.cell? ⟨gb148, 1, none⟩ = some (.int .i64 t147) := (blk_cell BK148.out 1).trans rfl; have hfz15_0 := blk_frozen BK148.out 0; have hfz15_1 := blk_frozen BK148.out 1) | ((with_reducible refine gate_dst (N := 14) rfl ?_); (try (refine gate_guard (by rfl) ?_; dsimp only)); refine Kd.R_lit (Kd.int .i64) _ 3 ?hg (N := 14) ?hd (xs := ([2] : List Int)) (inner := [.int .i64 2]) (ok := fun _ => True) (okp := fun _ => True) ?hr ?hp (fun _ hk => hk) trivial (Below.refl _ _) (Nat.le_refl _) (by simp) ?_; (case hd => rfl); (case hg => rfl); (case hr => first | (go_simp; done) | (go_simp; rfl)); (case hp => exact (Reps.one (show Kd.M (Kd.int .i64) _ _ _ 2 [.int .i64 2] from rfl) (Reps.none _ _))); intro v152 w16 ho17 hb hg_ hnew_; clear hg_ hnew_; (first | rw [← Ny151.out] at ho17 | (simp only [Int.reduceToNat] at ho17; rw [← Ny151.out] at ho17)); have n0_ := Aside0.mk (Kd.N_elder' (by (with_reducible repeat (first | apply Kd.N_alloc | apply Kd.N_drewN | apply Kd.N_drew)); exact HO146.out) (Kd.R_base ho17) hb); have n1_ := Aside0.mk (Kd.R_lower ho17 (below_size (by repeat (first | (with_reducible first | exact HB.out | apply below_alloc | apply pw_below_drewN | apply below_drew1 | refine below_set ?_ GE148.out) | exact HB.out)))); have n2_ := Aside0.mk (blk_below (g := gb148) (o := .cells #[.slice Ao12 t144.length co12, .int .i64 t147] 24 (0, 0)) (by (with_reducible repeat (first | refine blk_drewN ?_ _ | refine blk_drew ?_ | refine blk_alloc ?_ _)); exact BK148.out) hb); have n3_ := Aside0.mk (below_step (by repeat (first | (with_reducible first | exact HB.out | apply below_alloc | apply pw_below_drewN | apply below_drew1 | refine below_set ?_ GE148.out) | exact HB.out)) hb); clear HO146; clear BK148; clear HB; have HO146 := n0_; have HO153 := n1_; have BK148 := n2_; have HB := n3_; clear n0_ n1_ n2_ n3_; clear hb ho17; obtain ⟨Ao18, co18, eo18⟩ := Kd.R_slice HO153.out; subst eo18) | ((with_reducible refine gate_builtin (b := .append) (xs := #[.tmp 13, .tmp 16]) rfl ?_); (try (refine gate_guard (by rfl) ?_; dsimp only)); at_builtin; refine Kd.N_append k40 (w0 := w) w.heap.size rfl (.tmp 13) (.tmp 16) 22 40 (.agg #[(.int .i64 0), (.slice none 0 0), (.int .i64 0), (.int .i64 0), (.slice none 0 0), (.int .i64 0)]) 80 rfl Try.underlying22 info40 rfl (by decide) (by omega) (.slice Ao12 t144.length co12) t144 (⟨10, y151, (⟨0, 0, ([] : List (S38))⟩ : S38), 1⟩ : S40) [.int .i64 10, .slice Ao18 y151.length co18, .int .i64 0, .int .i64 0, .slice none 0 0, .int .i64 1] (fun k_ => k_ ≠ gb148) (fun k_ => ((fun k_ => k_ ≠ gb148)) k_ ∧ some k_ ≠ (.slice Ao12 t144.length co12 : Value).ownBlock) rfl rfl ?aP (fun _ hk => hk) ?aF ?aO ?aB ?aS ?aL ?_; (case aP => exact (k40_mkF _ _ (⟨10, y151, (⟨0, 0, ([] : List (S38))⟩ : S38), 1⟩ : S40) (Kd.R_reads' (Kd.R_mono (ok' := (fun k_ => ((fun k_ => k_ ≠ gb148)) k_ ∧ some k_ ≠ (.slice Ao12 t144.length co12 : Value).ownBlock)) (Kd.R_types (Kd.R_apart' (HO153.out) (Kd.N_typed HO146.out) (by decide)) BK148.out (by decide)) (fun k_ hk => ⟨hk.2, hk.1.2⟩))).2.1 (Kd.R_F (Kd.R_mono (ok' := (fun k_ => ((fun k_ => k_ ≠ gb148)) k_ ∧ some k_ ≠ (.slice Ao12 t144.length co12 : Value).ownBlock)) (Kd.R_types (Kd.R_apart' (HO153.out) (Kd.N_typed HO146.out) (by decide)) BK148.out (by decide)) (fun k_ hk => ⟨hk.2, hk.1.2⟩))) (Nat.le_refl _) (Kd.F_nil _ _ _))); (case aB => exact (by repeat (first | (with_reducible first | exact HB.out | apply below_alloc | apply pw_below_drewN | apply below_drew1 | refine below_set ?_ GE148.out) | exact HB.out))); (case aF => exact (fun k_ hk => Kd.freshB (g := gb148) (o := .cells #[.slice Ao12 t144.length co12, .int .i64 t147] 24 (0, 0)) (by (with_reducible repeat (first | refine blk_drewN ?_ _ | refine blk_drew ?_ | refine blk_alloc ?_ _)); exact BK148.out) k_ hk)); (case aO => exact (by (with_reducible repeat (first | apply Kd.N_alloc | apply Kd.N_drewN | apply Kd.N_drew)); exact Kd.N_mono HO146.out (fun _ hk => hk.1.2))); (case aS => exact (below_size (by repeat (first | (with_reducible first | exact HB.out | apply below_alloc | apply pw_below_drewN | apply below_drew1 | refine below_set ?_ GE148.out) | exact HB.out)))); (case aL => have := LMc3.out; omega); intro v155 w19 ho hb hg hat; rw [← Ny154.out] at ho; have n0_ := Aside0.mk (blk_grown (g := gb148) (o := .cells #[.slice Ao12 t144.length co12, .int .i64 t147] 24 (0, 0)) (by (with_reducible repeat (first | refine blk_drewN ?_ _ | refine blk_drew ?_ | refine blk_alloc ?_ _)); exact BK148.out) hg (Kd.N_ne HO146.out BK148.out (by decide))); have n1_ := Aside0.mk (hb); have n2_ := Aside0.mk (ho); clear BK148; clear HB; clear HO146; clear HO153; have BK148 := n0_; have HB := n1_; have HO156 := n2_; clear n0_ n1_ n2_; clear ho hb hg hat; obtain ⟨Ao20, co20, eo20⟩ := Kd.N_slice HO156.out; subst eo20; have hcz21_0 : w19.cell? ⟨gb148, 0, none⟩ = some (.slice Ao12 t144.length co12) := (blk_cell BK148.out 0).trans rfl; have hcz21_1 : w19.cell? ⟨gb148, 1, none⟩ = some (.int .i64 t147) := (blk_cell BK148.out 1).trans rfl; have hfz21_0 := blk_frozen BK148.out 0; have hfz21_1 := blk_frozen BK148.out 1) | ((with_reducible refine gate_callee (f := 10) rfl ?_); refine goesL_ (some 21) rfl rfl Try.func10 (by kernel_rfl) rfl #[.agg #[.slice Ao20 y154.length co20, .int .i64 t147]] rfl (by (try simp only [List.map_toArray, List.map_cons, List.map_nil]); first | done | rfl | (simp only [List.length_drop, List.length_take]; rfl)) ?_; (with_reducible refine (topo_Check.calls _ _ y154 t147 t157 t158 _ ?side1 ?side2 A4.out).mono ?_); (case side1 => refine (Kd.N_reads' (e := 40) (base := w.heap.size) (ok := fun k_ => k_ ≠ gb148) (n := y154.length) (c := co20) ?_).2.2; exact (by (with_reducible repeat (first | apply Kd.N_alloc | apply Kd.N_drewN | apply Kd.N_drew)); exact (Kd.N_mono (Kd.N_far (p := ⟨gb148, 0, none⟩) (Kd.N_mono HO156.out (fun k_ hk => (⟨hk, hk⟩ : _ ∧ k_ ≠ gb148))) (fun _ hk => hk.2) (.slice Ao20 y154.length co20)) (fun _ h_ => h_.1)))); (case side2 => exact (Kd.N_reads' HO156.out).2.1); rintro e w22 ⟨rfl, hb⟩; refine ⟨_, rfl, ?_⟩; have n0_ := Aside0.mk (Kd.N_below (by (with_reducible repeat (first | apply Kd.N_alloc | apply Kd.N_drewN | apply Kd.N_drew)); exact (Kd.N_mono (Kd.N_far (p := ⟨gb148, 0, none⟩) (Kd.N_mono HO156.out (fun k_ hk => (⟨hk, hk⟩ : _ ∧ k_ ≠ gb148))) (fun _ hk => hk.2) (.slice Ao20 y154.length co20)) (fun _ h_ => h_.1))) hb); have n1_ := Aside0.mk (blk_below (g := gb148) (o := .cells #[.slice Ao20 y154.length co20, .int .i64 t147] 24 (0, 0)) (by (with_reducible repeat (first | refine blk_drewN ?_ _ | refine blk_drew ?_ | refine blk_alloc ?_ _)); refine blk_put (cs := #[.slice Ao12 t144.length co12, .int .i64 t147]) ?_ 0 _ rfl; (with_reducible repeat (first | refine blk_drewN ?_ _ | refine blk_drew ?_ | refine blk_alloc ?_ _)); exact BK148.out) hb); have n2_ := Aside0.mk (below_step (by repeat (first | (with_reducible first | exact HB.out | apply below_alloc | apply pw_below_drewN | apply below_drew1 | refine below_set ?_ GE148.out) | exact HB.out)) hb); clear HO156; clear BK148; clear HB; have HO156 := n0_; have BK148 := n1_; have HB := n2_; clear n0_ n1_ n2_; (try clear hb); (try clear hb2); (try clear hk); (try clear hi); have hcz23_0 : w22.cell? ⟨gb148, 0, none⟩ = some (.slice Ao20 y154.length co20) := (blk_cell BK148.out 0).trans rfl; have hcz23_1 : w22.cell? ⟨gb148, 1, none⟩ = some (.int .i64 t147) := (blk_cell BK148.out 1).trans rfl; have hfz23_0 := blk_frozen BK148.out 0; have hfz23_1 := blk_frozen BK148.out 1) | (go_at_call 13; (with_reducible refine (topo_Users.calls k _ _ y154 t147 1 t159 _ ?side1 ?side2 A9.out).mono ?_); (case side1 => repeat (first | exact (Kd.N_reads' HO156.out).2.2 | (with_reducible refine Kd.C_alloc ?_ _) | (with_reducible refine Kd.C_drewN ?_ _) | (with_reducible refine Kd.C_drew ?_))); (case side2 => exact (Kd.N_reads' HO156.out).2.1); rintro e w24 ⟨v160, rfl, ho0, hb⟩; have n0_ := Aside0.mk (Kd.N_elder' (by (with_reducible repeat (first | apply Kd.N_alloc | apply Kd.N_drewN | apply Kd.N_drew)); exact HO156.out) (Kd.R_base ho0) hb); have n1_ := Aside0.mk (Kd.R_lower ho0 (below_size (by repeat (first | (with_reducible first | exact HB.out | apply below_alloc | apply pw_below_drewN | apply below_drew1 | refine below_set ?_ GE148.out) | exact HB.out)))); have n2_ := Aside0.mk (blk_below (g := gb148) (o := .cells #[.slice Ao20 y154.length co20, .int .i64 t147] 24 (0, 0)) (by (with_reducible repeat (first | refine blk_drewN ?_ _ | refine blk_drew ?_ | refine blk_alloc ?_ _)); exact BK148.out) hb); have n3_ := Aside0.mk (below_step (by repeat (first | (with_reducible first | exact HB.out | apply below_alloc | apply pw_below_drewN | apply below_drew1 | refine below_set ?_ GE148.out) | exact HB.out)) hb); clear HO156; clear BK148; clear HB; have HO156 := n0_; have HO161 := n1_; have BK148 := n2_; have HB := n3_; clear n0_ n1_ n2_ n3_; (try clear hb); (try clear hb2); (try clear hk); (try clear hi); (try clear ho0); obtain ⟨Ao25, co25, eo25⟩ := Kd.R_slice HO161.out; subst eo25))
            go_ret
            exact ⟨by first | rfl | (simp [errW_none, errW_some] <;> rfl) | (simp [*, errW_none, errW_some] <;> rfl), by repeat (first | (with_reducible first | exact HB.out | apply below_alloc | apply pw_below_drewN | apply below_drew1 | refine below_set ?_ GE148.out) | exact HB.out)⟩
          · rw [if_neg c8] at H
            have c8b0 : (t158 == 5) = false := beq_eq_false_iff_ne.mpr c8
            have c8b1 : (t158 != 5) = true := bne_iff_ne.mpr c8
            obtain rfl := Option.some.inj H
            go_enter Try.func8, Try.ntmps8
            go_wp2_with (first | ((with_reducible refine gate_callee (f := 19) rfl ?_); refine goesL_ (some 6) rfl rfl Try.func19 (by kernel_rfl) rfl #[] rfl (by (try simp only [List.map_toArray, List.map_cons, List.map_nil]); first | done | rfl | (simp only [List.length_drop, List.length_take]; rfl)) ?_; (with_reducible refine (tidemilllaw05_chain.calls  t144 t147 _ A1.out).mono ?_); rintro e w26 ⟨v145, rfl, ho0, hb⟩; refine ⟨_, rfl, ?_⟩; have n0_ := Aside0.mk (Kd.N_lower (Kd.N_mono (ok' := fun k_ => True) ho0 (fun k_ hk_ => trivial)) (below_size (by repeat (first | (with_reducible first | exact HB.out | apply below_alloc | apply pw_below_drewN | apply below_drew1) | exact HB.out)))); have n1_ := Aside0.mk (below_step (by repeat (first | (with_reducible first | exact HB.out | apply below_alloc | apply pw_below_drewN | apply below_drew1) | exact HB.out)) hb); clear HB; have HO146 := n0_; have HB := n1_; clear n0_ n1_; (try clear hb); (try clear hb2); (try clear hk); (try clear hi); (try clear ho0)) | ((with_reducible refine gate_dst (N := 1) rfl ?_); (try (refine gate_guard (by rfl) ?_; dsimp only)); refine box_event ?hg (N := 1) ?hd (cs := #[.slice none 0 0, .int .i64 0]) (t := 24) ?hr ?_; (case hd => rfl); (case hg => rfl); (case hr => first | (go_simp; done) | (go_simp; rfl)); intro gb148 hg w27 hbox hb; have n0_ := Aside0.mk (Kd.N_below (Kd.N_elderB (by (with_reducible repeat (first | apply Kd.N_alloc | apply Kd.N_drewN | apply Kd.N_drew)); exact HO146.out) gb148 (Nat.le_of_eq hg.symm)) hb); have n1_ := Aside0.mk (below_step (by repeat (first | (with_reducible first | exact HB.out | apply below_alloc | apply pw_below_drewN | apply below_drew1) | exact HB.out)) hb); have n2_ := Aside0.mk (hbox); have n3_ := Aside0.mk ((by rw [hg]; exact (below_size (by repeat (first | (with_reducible first | exact HB.out | apply below_alloc | apply pw_below_drewN | apply below_drew1) | exact HB.out))) : w.heap.size ≤ gb148)); have n4_ := Aside0.mk ((by rw [hg]; exact (below_size (by repeat (first | (with_reducible first | exact HB.out | apply below_alloc | apply pw_below_drewN | apply below_drew1) | exact HB.out))) : w.heap.size ≤ gb148)); clear HO146; clear HB; have HO146 := n0_; have HB := n1_; have BK148 := n2_; have GW148 := n3_; have GE148 := n4_; clear n0_ n1_ n2_ n3_ n4_; clear hb hbox hg; obtain ⟨Ao28, co28, eo28⟩ := Kd.N_slice HO146.out; subst eo28; have hcz29_0 : w27.cell? ⟨gb148, 0, none⟩ = some (.slice none 0 0) := (blk_cell BK148.out 0).trans rfl; have hcz29_1 : w27.cell? ⟨gb148, 1, none⟩ = some (.int .i64 0) := (blk_cell BK148.out 1).trans rfl; have hfz29_0 := blk_frozen BK148.out 0; have hfz29_1 := blk_frozen BK148.out 1) | ((with_reducible refine gate_callee (f := 10) rfl ?_); refine goesL_ (some 9) rfl rfl Try.func10 (by kernel_rfl) rfl #[.agg #[.slice Ao28 t144.length co28, .int .i64 t147]] rfl (by (try simp only [List.map_toArray, List.map_cons, List.map_nil]); first | done | rfl | (simp only [List.length_drop, List.length_take]; rfl)) ?_; (with_reducible refine (topo_Check.calls _ _ t144 t147 t149 t150 _ ?side1 ?side2 A2.out).mono ?_); (case side1 => refine (Kd.N_reads' (e := 40) (base := w.heap.size) (ok := fun k_ => (True ∧ k_ ≠ gb148)) (n := t144.length) (c := co28) ?_).2.2; exact (by (with_reducible repeat (first | apply Kd.N_alloc | apply Kd.N_drewN | apply Kd.N_drew)); exact (Kd.N_mono (Kd.N_far (p := ⟨gb148, 1, none⟩) (Kd.N_far (p := ⟨gb148, 0, none⟩) (Kd.N_mono HO146.out (fun k_ hk => (⟨hk, hk.2⟩ : _ ∧ k_ ≠ gb148))) (fun _ hk => hk.2) (.slice Ao28 t144.length co28)) (fun _ hk => hk.2) (.int .i64 t147)) (fun _ h_ => h_.1)))); (case side2 => exact (Kd.N_reads' HO146.out).2.1); rintro e w30 ⟨rfl, hb⟩; refine ⟨_, rfl, ?_⟩; have n0_ := Aside0.mk (Kd.N_below (by (with_reducible repeat (first | apply Kd.N_alloc | apply Kd.N_drewN | apply Kd.N_drew)); exact (Kd.N_mono (Kd.N_far (p := ⟨gb148, 1, none⟩) (Kd.N_far (p := ⟨gb148, 0, none⟩) (Kd.N_mono HO146.out (fun k_ hk => (⟨hk, hk.2⟩ : _ ∧ k_ ≠ gb148))) (fun _ hk => hk.2) (.slice Ao28 t144.length co28)) (fun _ hk => hk.2) (.int .i64 t147)) (fun _ h_ => h_.1))) hb); have n1_ := Aside0.mk (blk_below (g := gb148) (o := .cells #[.slice Ao28 t144.length co28, .int .i64 t147] 24 (0, 0)) (by (with_reducible repeat (first | refine blk_drewN ?_ _ | refine blk_drew ?_ | refine blk_alloc ?_ _)); refine blk_put (cs := #[.slice Ao28 t144.length co28, .int .i64 0]) ?_ 1 _ rfl; (with_reducible repeat (first | refine blk_drewN ?_ _ | refine blk_drew ?_ | refine blk_alloc ?_ _)); refine blk_put (cs := #[.slice none 0 0, .int .i64 0]) ?_ 0 _ rfl; (with_reducible repeat (first | refine blk_drewN ?_ _ | refine blk_drew ?_ | refine blk_alloc ?_ _)); exact BK148.out) hb); have n2_ := Aside0.mk (below_step (by repeat (first | (with_reducible first | exact HB.out | apply below_alloc | apply pw_below_drewN | apply below_drew1 | refine below_set ?_ GE148.out) | exact HB.out)) hb); clear HO146; clear BK148; clear HB; have HO146 := n0_; have BK148 := n1_; have HB := n2_; clear n0_ n1_ n2_; (try clear hb); (try clear hb2); (try clear hk); (try clear hi); have hcz31_0 : w30.cell? ⟨gb148, 0, none⟩ = some (.slice Ao28 t144.length co28) := (blk_cell BK148.out 0).trans rfl; have hcz31_1 : w30.cell? ⟨gb148, 1, none⟩ = some (.int .i64 t147) := (blk_cell BK148.out 1).trans rfl; have hfz31_0 := blk_frozen BK148.out 0; have hfz31_1 := blk_frozen BK148.out 1) | ((with_reducible refine gate_dst (N := 14) rfl ?_); (try (refine gate_guard (by rfl) ?_; dsimp only)); refine Kd.R_lit (Kd.int .i64) _ 3 ?hg (N := 14) ?hd (xs := ([2] : List Int)) (inner := [.int .i64 2]) (ok := fun _ => True) (okp := fun _ => True) ?hr ?hp (fun _ hk => hk) trivial (Below.refl _ _) (Nat.le_refl _) (by simp) ?_; (case hd => rfl); (case hg => rfl); (case hr => first | (go_simp; done) | (go_simp; rfl)); (case hp => exact (Reps.one (show Kd.M (Kd.int .i64) _ _ _ 2 [.int .i64 2] from rfl) (Reps.none _ _))); intro v152 w32 ho33 hb hg_ hnew_; clear hg_ hnew_; (first | rw [← Ny151.out] at ho33 | (simp only [Int.reduceToNat] at ho33; rw [← Ny151.out] at ho33)); have n0_ := Aside0.mk (Kd.N_elder' (by (with_reducible repeat (first | apply Kd.N_alloc | apply Kd.N_drewN | apply Kd.N_drew)); exact HO146.out) (Kd.R_base ho33) hb); have n1_ := Aside0.mk (Kd.R_lower ho33 (below_size (by repeat (first | (with_reducible first | exact HB.out | apply below_alloc | apply pw_below_drewN | apply below_drew1 | refine below_set ?_ GE148.out) | exact HB.out)))); have n2_ := Aside0.mk (blk_below (g := gb148) (o := .cells #[.slice Ao28 t144.length co28, .int .i64 t147] 24 (0, 0)) (by (with_reducible repeat (first | refine blk_drewN ?_ _ | refine blk_drew ?_ | refine blk_alloc ?_ _)); exact BK148.out) hb); have n3_ := Aside0.mk (below_step (by repeat (first | (with_reducible first | exact HB.out | apply below_alloc | apply pw_below_drewN | apply below_drew1 | refine below_set ?_ GE148.out) | exact HB.out)) hb); clear HO146; clear BK148; clear HB; have HO146 := n0_; have HO153 := n1_; have BK148 := n2_; have HB := n3_; clear n0_ n1_ n2_ n3_; clear hb ho33; obtain ⟨Ao34, co34, eo34⟩ := Kd.R_slice HO153.out; subst eo34) | ((with_reducible refine gate_builtin (b := .append) (xs := #[.tmp 13, .tmp 16]) rfl ?_); (try (refine gate_guard (by rfl) ?_; dsimp only)); at_builtin; refine Kd.N_append k40 (w0 := w) w.heap.size rfl (.tmp 13) (.tmp 16) 22 40 (.agg #[(.int .i64 0), (.slice none 0 0), (.int .i64 0), (.int .i64 0), (.slice none 0 0), (.int .i64 0)]) 80 rfl Try.underlying22 info40 rfl (by decide) (by omega) (.slice Ao28 t144.length co28) t144 (⟨10, y151, (⟨0, 0, ([] : List (S38))⟩ : S38), 1⟩ : S40) [.int .i64 10, .slice Ao34 y151.length co34, .int .i64 0, .int .i64 0, .slice none 0 0, .int .i64 1] (fun k_ => k_ ≠ gb148) (fun k_ => ((fun k_ => k_ ≠ gb148)) k_ ∧ some k_ ≠ (.slice Ao28 t144.length co28 : Value).ownBlock) rfl rfl ?aP (fun _ hk => hk) ?aF ?aO ?aB ?aS ?aL ?_; (case aP => exact (k40_mkF _ _ (⟨10, y151, (⟨0, 0, ([] : List (S38))⟩ : S38), 1⟩ : S40) (Kd.R_reads' (Kd.R_mono (ok' := (fun k_ => ((fun k_ => k_ ≠ gb148)) k_ ∧ some k_ ≠ (.slice Ao28 t144.length co28 : Value).ownBlock)) (Kd.R_types (Kd.R_apart' (HO153.out) (Kd.N_typed HO146.out) (by decide)) BK148.out (by decide)) (fun k_ hk => ⟨hk.2, hk.1.2⟩))).2.1 (Kd.R_F (Kd.R_mono (ok' := (fun k_ => ((fun k_ => k_ ≠ gb148)) k_ ∧ some k_ ≠ (.slice Ao28 t144.length co28 : Value).ownBlock)) (Kd.R_types (Kd.R_apart' (HO153.out) (Kd.N_typed HO146.out) (by decide)) BK148.out (by decide)) (fun k_ hk => ⟨hk.2, hk.1.2⟩))) (Nat.le_refl _) (Kd.F_nil _ _ _))); (case aB => exact (by repeat (first | (with_reducible first | exact HB.out | apply below_alloc | apply pw_below_drewN | apply below_drew1 | refine below_set ?_ GE148.out) | exact HB.out))); (case aF => exact (fun k_ hk => Kd.freshB (g := gb148) (o := .cells #[.slice Ao28 t144.length co28, .int .i64 t147] 24 (0, 0)) (by (with_reducible repeat (first | refine blk_drewN ?_ _ | refine blk_drew ?_ | refine blk_alloc ?_ _)); exact BK148.out) k_ hk)); (case aO => exact (by (with_reducible repeat (first | apply Kd.N_alloc | apply Kd.N_drewN | apply Kd.N_drew)); exact Kd.N_mono HO146.out (fun _ hk => hk.1.2))); (case aS => exact (below_size (by repeat (first | (with_reducible first | exact HB.out | apply below_alloc | apply pw_below_drewN | apply below_drew1 | refine below_set ?_ GE148.out) | exact HB.out)))); (case aL => have := LMc3.out; omega); intro v155 w35 ho hb hg hat; rw [← Ny154.out] at ho; have n0_ := Aside0.mk (blk_grown (g := gb148) (o := .cells #[.slice Ao28 t144.length co28, .int .i64 t147] 24 (0, 0)) (by (with_reducible repeat (first | refine blk_drewN ?_ _ | refine blk_drew ?_ | refine blk_alloc ?_ _)); exact BK148.out) hg (Kd.N_ne HO146.out BK148.out (by decide))); have n1_ := Aside0.mk (hb); have n2_ := Aside0.mk (ho); clear BK148; clear HB; clear HO146; clear HO153; have BK148 := n0_; have HB := n1_; have HO156 := n2_; clear n0_ n1_ n2_; clear ho hb hg hat; obtain ⟨Ao36, co36, eo36⟩ := Kd.N_slice HO156.out; subst eo36; have hcz37_0 : w35.cell? ⟨gb148, 0, none⟩ = some (.slice Ao28 t144.length co28) := (blk_cell BK148.out 0).trans rfl; have hcz37_1 : w35.cell? ⟨gb148, 1, none⟩ = some (.int .i64 t147) := (blk_cell BK148.out 1).trans rfl; have hfz37_0 := blk_frozen BK148.out 0; have hfz37_1 := blk_frozen BK148.out 1) | ((with_reducible refine gate_callee (f := 10) rfl ?_); refine goesL_ (some 21) rfl rfl Try.func10 (by kernel_rfl) rfl #[.agg #[.slice Ao36 y154.length co36, .int .i64 t147]] rfl (by (try simp only [List.map_toArray, List.map_cons, List.map_nil]); first | done | rfl | (simp only [List.length_drop, List.length_take]; rfl)) ?_; (with_reducible refine (topo_Check.calls _ _ y154 t147 t157 t158 _ ?side1 ?side2 A4.out).mono ?_); (case side1 => refine (Kd.N_reads' (e := 40) (base := w.heap.size) (ok := fun k_ => k_ ≠ gb148) (n := y154.length) (c := co36) ?_).2.2; exact (by (with_reducible repeat (first | apply Kd.N_alloc | apply Kd.N_drewN | apply Kd.N_drew)); exact (Kd.N_mono (Kd.N_far (p := ⟨gb148, 0, none⟩) (Kd.N_mono HO156.out (fun k_ hk => (⟨hk, hk⟩ : _ ∧ k_ ≠ gb148))) (fun _ hk => hk.2) (.slice Ao36 y154.length co36)) (fun _ h_ => h_.1)))); (case side2 => exact (Kd.N_reads' HO156.out).2.1); rintro e w38 ⟨rfl, hb⟩; refine ⟨_, rfl, ?_⟩; have n0_ := Aside0.mk (Kd.N_below (by (with_reducible repeat (first | apply Kd.N_alloc | apply Kd.N_drewN | apply Kd.N_drew)); exact (Kd.N_mono (Kd.N_far (p := ⟨gb148, 0, none⟩) (Kd.N_mono HO156.out (fun k_ hk => (⟨hk, hk⟩ : _ ∧ k_ ≠ gb148))) (fun _ hk => hk.2) (.slice Ao36 y154.length co36)) (fun _ h_ => h_.1))) hb); have n1_ := Aside0.mk (blk_below (g := gb148) (o := .cells #[.slice Ao36 y154.length co36, .int .i64 t147] 24 (0, 0)) (by (with_reducible repeat (first | refine blk_drewN ?_ _ | refine blk_drew ?_ | refine blk_alloc ?_ _)); refine blk_put (cs := #[.slice Ao28 t144.length co28, .int .i64 t147]) ?_ 0 _ rfl; (with_reducible repeat (first | refine blk_drewN ?_ _ | refine blk_drew ?_ | refine blk_alloc ?_ _)); exact BK148.out) hb); have n2_ := Aside0.mk (below_step (by repeat (first | (with_reducible first | exact HB.out | apply below_alloc | apply pw_below_drewN | apply below_drew1 | refine below_set ?_ GE148.out) | exact HB.out)) hb); clear HO156; clear BK148; clear HB; have HO156 := n0_; have BK148 := n1_; have HB := n2_; clear n0_ n1_ n2_; (try clear hb); (try clear hb2); (try clear hk); (try clear hi)))
            go_ret
            exact ⟨by first | rfl | (simp [errW_none, errW_some] <;> rfl) | (simp [*, errW_none, errW_some] <;> rfl), by repeat (first | (with_reducible first | exact HB.out | apply below_alloc | apply pw_below_drewN | apply below_drew1 | refine below_set ?_ GE148.out) | exact HB.out)⟩
        · rw [if_neg c7] at H
          have c7b0 : (t157 == 3) = false := beq_eq_false_iff_ne.mpr c7
          have c7b1 : (t157 != 3) = true := bne_iff_ne.mpr c7
          obtain rfl := Option.some.inj H
          go_enter Try.func8, Try.ntmps8
          go_wp2_with (first | ((with_reducible refine gate_callee (f := 19) rfl ?_); refine goesL_ (some 6) rfl rfl Try.func19 (by kernel_rfl) rfl #[] rfl (by (try simp only [List.map_toArray, List.map_cons, List.map_nil]); first | done | rfl | (simp only [List.length_drop, List.length_take]; rfl)) ?_; (with_reducible refine (tidemilllaw05_chain.calls  t144 t147 _ A1.out).mono ?_); rintro e w39 ⟨v145, rfl, ho0, hb⟩; refine ⟨_, rfl, ?_⟩; have n0_ := Aside0.mk (Kd.N_lower (Kd.N_mono (ok' := fun k_ => True) ho0 (fun k_ hk_ => trivial)) (below_size (by repeat (first | (with_reducible first | exact HB.out | apply below_alloc | apply pw_below_drewN | apply below_drew1) | exact HB.out)))); have n1_ := Aside0.mk (below_step (by repeat (first | (with_reducible first | exact HB.out | apply below_alloc | apply pw_below_drewN | apply below_drew1) | exact HB.out)) hb); clear HB; have HO146 := n0_; have HB := n1_; clear n0_ n1_; (try clear hb); (try clear hb2); (try clear hk); (try clear hi); (try clear ho0)) | ((with_reducible refine gate_dst (N := 1) rfl ?_); (try (refine gate_guard (by rfl) ?_; dsimp only)); refine box_event ?hg (N := 1) ?hd (cs := #[.slice none 0 0, .int .i64 0]) (t := 24) ?hr ?_; (case hd => rfl); (case hg => rfl); (case hr => first | (go_simp; done) | (go_simp; rfl)); intro gb148 hg w40 hbox hb; have n0_ := Aside0.mk (Kd.N_below (Kd.N_elderB (by (with_reducible repeat (first | apply Kd.N_alloc | apply Kd.N_drewN | apply Kd.N_drew)); exact HO146.out) gb148 (Nat.le_of_eq hg.symm)) hb); have n1_ := Aside0.mk (below_step (by repeat (first | (with_reducible first | exact HB.out | apply below_alloc | apply pw_below_drewN | apply below_drew1) | exact HB.out)) hb); have n2_ := Aside0.mk (hbox); have n3_ := Aside0.mk ((by rw [hg]; exact (below_size (by repeat (first | (with_reducible first | exact HB.out | apply below_alloc | apply pw_below_drewN | apply below_drew1) | exact HB.out))) : w.heap.size ≤ gb148)); have n4_ := Aside0.mk ((by rw [hg]; exact (below_size (by repeat (first | (with_reducible first | exact HB.out | apply below_alloc | apply pw_below_drewN | apply below_drew1) | exact HB.out))) : w.heap.size ≤ gb148)); clear HO146; clear HB; have HO146 := n0_; have HB := n1_; have BK148 := n2_; have GW148 := n3_; have GE148 := n4_; clear n0_ n1_ n2_ n3_ n4_; clear hb hbox hg; obtain ⟨Ao41, co41, eo41⟩ := Kd.N_slice HO146.out; subst eo41; have hcz42_0 : w40.cell? ⟨gb148, 0, none⟩ = some (.slice none 0 0) := (blk_cell BK148.out 0).trans rfl; have hcz42_1 : w40.cell? ⟨gb148, 1, none⟩ = some (.int .i64 0) := (blk_cell BK148.out 1).trans rfl; have hfz42_0 := blk_frozen BK148.out 0; have hfz42_1 := blk_frozen BK148.out 1) | ((with_reducible refine gate_callee (f := 10) rfl ?_); refine goesL_ (some 9) rfl rfl Try.func10 (by kernel_rfl) rfl #[.agg #[.slice Ao41 t144.length co41, .int .i64 t147]] rfl (by (try simp only [List.map_toArray, List.map_cons, List.map_nil]); first | done | rfl | (simp only [List.length_drop, List.length_take]; rfl)) ?_; (with_reducible refine (topo_Check.calls _ _ t144 t147 t149 t150 _ ?side1 ?side2 A2.out).mono ?_); (case side1 => refine (Kd.N_reads' (e := 40) (base := w.heap.size) (ok := fun k_ => (True ∧ k_ ≠ gb148)) (n := t144.length) (c := co41) ?_).2.2; exact (by (with_reducible repeat (first | apply Kd.N_alloc | apply Kd.N_drewN | apply Kd.N_drew)); exact (Kd.N_mono (Kd.N_far (p := ⟨gb148, 1, none⟩) (Kd.N_far (p := ⟨gb148, 0, none⟩) (Kd.N_mono HO146.out (fun k_ hk => (⟨hk, hk.2⟩ : _ ∧ k_ ≠ gb148))) (fun _ hk => hk.2) (.slice Ao41 t144.length co41)) (fun _ hk => hk.2) (.int .i64 t147)) (fun _ h_ => h_.1)))); (case side2 => exact (Kd.N_reads' HO146.out).2.1); rintro e w43 ⟨rfl, hb⟩; refine ⟨_, rfl, ?_⟩; have n0_ := Aside0.mk (Kd.N_below (by (with_reducible repeat (first | apply Kd.N_alloc | apply Kd.N_drewN | apply Kd.N_drew)); exact (Kd.N_mono (Kd.N_far (p := ⟨gb148, 1, none⟩) (Kd.N_far (p := ⟨gb148, 0, none⟩) (Kd.N_mono HO146.out (fun k_ hk => (⟨hk, hk.2⟩ : _ ∧ k_ ≠ gb148))) (fun _ hk => hk.2) (.slice Ao41 t144.length co41)) (fun _ hk => hk.2) (.int .i64 t147)) (fun _ h_ => h_.1))) hb); have n1_ := Aside0.mk (blk_below (g := gb148) (o := .cells #[.slice Ao41 t144.length co41, .int .i64 t147] 24 (0, 0)) (by (with_reducible repeat (first | refine blk_drewN ?_ _ | refine blk_drew ?_ | refine blk_alloc ?_ _)); refine blk_put (cs := #[.slice Ao41 t144.length co41, .int .i64 0]) ?_ 1 _ rfl; (with_reducible repeat (first | refine blk_drewN ?_ _ | refine blk_drew ?_ | refine blk_alloc ?_ _)); refine blk_put (cs := #[.slice none 0 0, .int .i64 0]) ?_ 0 _ rfl; (with_reducible repeat (first | refine blk_drewN ?_ _ | refine blk_drew ?_ | refine blk_alloc ?_ _)); exact BK148.out) hb); have n2_ := Aside0.mk (below_step (by repeat (first | (with_reducible first | exact HB.out | apply below_alloc | apply pw_below_drewN | apply below_drew1 | refine below_set ?_ GE148.out) | exact HB.out)) hb); clear HO146; clear BK148; clear HB; have HO146 := n0_; have BK148 := n1_; have HB := n2_; clear n0_ n1_ n2_; (try clear hb); (try clear hb2); (try clear hk); (try clear hi); have hcz44_0 : w43.cell? ⟨gb148, 0, none⟩ = some (.slice Ao41 t144.length co41) := (blk_cell BK148.out 0).trans rfl; have hcz44_1 : w43.cell? ⟨gb148, 1, none⟩ = some (.int .i64 t147) := (blk_cell BK148.out 1).trans rfl; have hfz44_0 := blk_frozen BK148.out 0; have hfz44_1 := blk_frozen BK148.out 1) | ((with_reducible refine gate_dst (N := 14) rfl ?_); (try (refine gate_guard (by rfl) ?_; dsimp only)); refine Kd.R_lit (Kd.int .i64) _ 3 ?hg (N := 14) ?hd (xs := ([2] : List Int)) (inner := [.int .i64 2]) (ok := fun _ => True) (okp := fun _ => True) ?hr ?hp (fun _ hk => hk) trivial (Below.refl _ _) (Nat.le_refl _) (by simp) ?_; (case hd => rfl); (case hg => rfl); (case hr => first | (go_simp; done) | (go_simp; rfl)); (case hp => exact (Reps.one (show Kd.M (Kd.int .i64) _ _ _ 2 [.int .i64 2] from rfl) (Reps.none _ _))); intro v152 w45 ho46 hb hg_ hnew_; clear hg_ hnew_; (first | rw [← Ny151.out] at ho46 | (simp only [Int.reduceToNat] at ho46; rw [← Ny151.out] at ho46)); have n0_ := Aside0.mk (Kd.N_elder' (by (with_reducible repeat (first | apply Kd.N_alloc | apply Kd.N_drewN | apply Kd.N_drew)); exact HO146.out) (Kd.R_base ho46) hb); have n1_ := Aside0.mk (Kd.R_lower ho46 (below_size (by repeat (first | (with_reducible first | exact HB.out | apply below_alloc | apply pw_below_drewN | apply below_drew1 | refine below_set ?_ GE148.out) | exact HB.out)))); have n2_ := Aside0.mk (blk_below (g := gb148) (o := .cells #[.slice Ao41 t144.length co41, .int .i64 t147] 24 (0, 0)) (by (with_reducible repeat (first | refine blk_drewN ?_ _ | refine blk_drew ?_ | refine blk_alloc ?_ _)); exact BK148.out) hb); have n3_ := Aside0.mk (below_step (by repeat (first | (with_reducible first | exact HB.out | apply below_alloc | apply pw_below_drewN | apply below_drew1 | refine below_set ?_ GE148.out) | exact HB.out)) hb); clear HO146; clear BK148; clear HB; have HO146 := n0_; have HO153 := n1_; have BK148 := n2_; have HB := n3_; clear n0_ n1_ n2_ n3_; clear hb ho46; obtain ⟨Ao47, co47, eo47⟩ := Kd.R_slice HO153.out; subst eo47) | ((with_reducible refine gate_builtin (b := .append) (xs := #[.tmp 13, .tmp 16]) rfl ?_); (try (refine gate_guard (by rfl) ?_; dsimp only)); at_builtin; refine Kd.N_append k40 (w0 := w) w.heap.size rfl (.tmp 13) (.tmp 16) 22 40 (.agg #[(.int .i64 0), (.slice none 0 0), (.int .i64 0), (.int .i64 0), (.slice none 0 0), (.int .i64 0)]) 80 rfl Try.underlying22 info40 rfl (by decide) (by omega) (.slice Ao41 t144.length co41) t144 (⟨10, y151, (⟨0, 0, ([] : List (S38))⟩ : S38), 1⟩ : S40) [.int .i64 10, .slice Ao47 y151.length co47, .int .i64 0, .int .i64 0, .slice none 0 0, .int .i64 1] (fun k_ => k_ ≠ gb148) (fun k_ => ((fun k_ => k_ ≠ gb148)) k_ ∧ some k_ ≠ (.slice Ao41 t144.length co41 : Value).ownBlock) rfl rfl ?aP (fun _ hk => hk) ?aF ?aO ?aB ?aS ?aL ?_; (case aP => exact (k40_mkF _ _ (⟨10, y151, (⟨0, 0, ([] : List (S38))⟩ : S38), 1⟩ : S40) (Kd.R_reads' (Kd.R_mono (ok' := (fun k_ => ((fun k_ => k_ ≠ gb148)) k_ ∧ some k_ ≠ (.slice Ao41 t144.length co41 : Value).ownBlock)) (Kd.R_types (Kd.R_apart' (HO153.out) (Kd.N_typed HO146.out) (by decide)) BK148.out (by decide)) (fun k_ hk => ⟨hk.2, hk.1.2⟩))).2.1 (Kd.R_F (Kd.R_mono (ok' := (fun k_ => ((fun k_ => k_ ≠ gb148)) k_ ∧ some k_ ≠ (.slice Ao41 t144.length co41 : Value).ownBlock)) (Kd.R_types (Kd.R_apart' (HO153.out) (Kd.N_typed HO146.out) (by decide)) BK148.out (by decide)) (fun k_ hk => ⟨hk.2, hk.1.2⟩))) (Nat.le_refl _) (Kd.F_nil _ _ _))); (case aB => exact (by repeat (first | (with_reducible first | exact HB.out | apply below_alloc | apply pw_below_drewN | apply below_drew1 | refine below_set ?_ GE148.out) | exact HB.out))); (case aF => exact (fun k_ hk => Kd.freshB (g := gb148) (o := .cells #[.slice Ao41 t144.length co41, .int .i64 t147] 24 (0, 0)) (by (with_reducible repeat (first | refine blk_drewN ?_ _ | refine blk_drew ?_ | refine blk_alloc ?_ _)); exact BK148.out) k_ hk)); (case aO => exact (by (with_reducible repeat (first | apply Kd.N_alloc | apply Kd.N_drewN | apply Kd.N_drew)); exact Kd.N_mono HO146.out (fun _ hk => hk.1.2))); (case aS => exact (below_size (by repeat (first | (with_reducible first | exact HB.out | apply below_alloc | apply pw_below_drewN | apply below_drew1 | refine below_set ?_ GE148.out) | exact HB.out)))); (case aL => have := LMc3.out; omega); intro v155 w48 ho hb hg hat; rw [← Ny154.out] at ho; have n0_ := Aside0.mk (blk_grown (g := gb148) (o := .cells #[.slice Ao41 t144.length co41, .int .i64 t147] 24 (0, 0)) (by (with_reducible repeat (first | refine blk_drewN ?_ _ | refine blk_drew ?_ | refine blk_alloc ?_ _)); exact BK148.out) hg (Kd.N_ne HO146.out BK148.out (by decide))); have n1_ := Aside0.mk (hb); have n2_ := Aside0.mk (ho); clear BK148; clear HB; clear HO146; clear HO153; have BK148 := n0_; have HB := n1_; have HO156 := n2_; clear n0_ n1_ n2_; clear ho hb hg hat; obtain ⟨Ao49, co49, eo49⟩ := Kd.N_slice HO156.out; subst eo49; have hcz50_0 : w48.cell? ⟨gb148, 0, none⟩ = some (.slice Ao41 t144.length co41) := (blk_cell BK148.out 0).trans rfl; have hcz50_1 : w48.cell? ⟨gb148, 1, none⟩ = some (.int .i64 t147) := (blk_cell BK148.out 1).trans rfl; have hfz50_0 := blk_frozen BK148.out 0; have hfz50_1 := blk_frozen BK148.out 1) | ((with_reducible refine gate_callee (f := 10) rfl ?_); refine goesL_ (some 21) rfl rfl Try.func10 (by kernel_rfl) rfl #[.agg #[.slice Ao49 y154.length co49, .int .i64 t147]] rfl (by (try simp only [List.map_toArray, List.map_cons, List.map_nil]); first | done | rfl | (simp only [List.length_drop, List.length_take]; rfl)) ?_; (with_reducible refine (topo_Check.calls _ _ y154 t147 t157 t158 _ ?side1 ?side2 A4.out).mono ?_); (case side1 => refine (Kd.N_reads' (e := 40) (base := w.heap.size) (ok := fun k_ => k_ ≠ gb148) (n := y154.length) (c := co49) ?_).2.2; exact (by (with_reducible repeat (first | apply Kd.N_alloc | apply Kd.N_drewN | apply Kd.N_drew)); exact (Kd.N_mono (Kd.N_far (p := ⟨gb148, 0, none⟩) (Kd.N_mono HO156.out (fun k_ hk => (⟨hk, hk⟩ : _ ∧ k_ ≠ gb148))) (fun _ hk => hk.2) (.slice Ao49 y154.length co49)) (fun _ h_ => h_.1)))); (case side2 => exact (Kd.N_reads' HO156.out).2.1); rintro e w51 ⟨rfl, hb⟩; refine ⟨_, rfl, ?_⟩; have n0_ := Aside0.mk (Kd.N_below (by (with_reducible repeat (first | apply Kd.N_alloc | apply Kd.N_drewN | apply Kd.N_drew)); exact (Kd.N_mono (Kd.N_far (p := ⟨gb148, 0, none⟩) (Kd.N_mono HO156.out (fun k_ hk => (⟨hk, hk⟩ : _ ∧ k_ ≠ gb148))) (fun _ hk => hk.2) (.slice Ao49 y154.length co49)) (fun _ h_ => h_.1))) hb); have n1_ := Aside0.mk (blk_below (g := gb148) (o := .cells #[.slice Ao49 y154.length co49, .int .i64 t147] 24 (0, 0)) (by (with_reducible repeat (first | refine blk_drewN ?_ _ | refine blk_drew ?_ | refine blk_alloc ?_ _)); refine blk_put (cs := #[.slice Ao41 t144.length co41, .int .i64 t147]) ?_ 0 _ rfl; (with_reducible repeat (first | refine blk_drewN ?_ _ | refine blk_drew ?_ | refine blk_alloc ?_ _)); exact BK148.out) hb); have n2_ := Aside0.mk (below_step (by repeat (first | (with_reducible first | exact HB.out | apply below_alloc | apply pw_below_drewN | apply below_drew1 | refine below_set ?_ GE148.out) | exact HB.out)) hb); clear HO156; clear BK148; clear HB; have HO156 := n0_; have BK148 := n1_; have HB := n2_; clear n0_ n1_ n2_; (try clear hb); (try clear hb2); (try clear hk); (try clear hi)))
          go_ret
          exact ⟨by first | rfl | (simp [errW_none, errW_some] <;> rfl) | (simp [*, errW_none, errW_some] <;> rfl), by repeat (first | (with_reducible first | exact HB.out | apply below_alloc | apply pw_below_drewN | apply below_drew1 | refine below_set ?_ GE148.out) | exact HB.out)⟩
      · rw [if_neg c6] at H
        have c6b0 : (t150 == 0) = false := beq_eq_false_iff_ne.mpr c6
        have c6b1 : (t150 != 0) = true := bne_iff_ne.mpr c6
        obtain rfl := Option.some.inj H
        go_enter Try.func8, Try.ntmps8
        go_wp2_with (first | ((with_reducible refine gate_callee (f := 19) rfl ?_); refine goesL_ (some 6) rfl rfl Try.func19 (by kernel_rfl) rfl #[] rfl (by (try simp only [List.map_toArray, List.map_cons, List.map_nil]); first | done | rfl | (simp only [List.length_drop, List.length_take]; rfl)) ?_; (with_reducible refine (tidemilllaw05_chain.calls  t144 t147 _ A1.out).mono ?_); rintro e w52 ⟨v145, rfl, ho0, hb⟩; refine ⟨_, rfl, ?_⟩; have n0_ := Aside0.mk (Kd.N_lower (Kd.N_mono (ok' := fun k_ => True) ho0 (fun k_ hk_ => trivial)) (below_size (by repeat (first | (with_reducible first | exact HB.out | apply below_alloc | apply pw_below_drewN | apply below_drew1) | exact HB.out)))); have n1_ := Aside0.mk (below_step (by repeat (first | (with_reducible first | exact HB.out | apply below_alloc | apply pw_below_drewN | apply below_drew1) | exact HB.out)) hb); clear HB; have HO146 := n0_; have HB := n1_; clear n0_ n1_; (try clear hb); (try clear hb2); (try clear hk); (try clear hi); (try clear ho0)) | ((with_reducible refine gate_dst (N := 1) rfl ?_); (try (refine gate_guard (by rfl) ?_; dsimp only)); refine box_event ?hg (N := 1) ?hd (cs := #[.slice none 0 0, .int .i64 0]) (t := 24) ?hr ?_; (case hd => rfl); (case hg => rfl); (case hr => first | (go_simp; done) | (go_simp; rfl)); intro gb148 hg w53 hbox hb; have n0_ := Aside0.mk (Kd.N_below (Kd.N_elderB (by (with_reducible repeat (first | apply Kd.N_alloc | apply Kd.N_drewN | apply Kd.N_drew)); exact HO146.out) gb148 (Nat.le_of_eq hg.symm)) hb); have n1_ := Aside0.mk (below_step (by repeat (first | (with_reducible first | exact HB.out | apply below_alloc | apply pw_below_drewN | apply below_drew1) | exact HB.out)) hb); have n2_ := Aside0.mk (hbox); have n3_ := Aside0.mk ((by rw [hg]; exact (below_size (by repeat (first | (with_reducible first | exact HB.out | apply below_alloc | apply pw_below_drewN | apply below_drew1) | exact HB.out))) : w.heap.size ≤ gb148)); have n4_ := Aside0.mk ((by rw [hg]; exact (below_size (by repeat (first | (with_reducible first | exact HB.out | apply below_alloc | apply pw_below_drewN | apply below_drew1) | exact HB.out))) : w.heap.size ≤ gb148)); clear HO146; clear HB; have HO146 := n0_; have HB := n1_; have BK148 := n2_; have GW148 := n3_; have GE148 := n4_; clear n0_ n1_ n2_ n3_ n4_; clear hb hbox hg; obtain ⟨Ao54, co54, eo54⟩ := Kd.N_slice HO146.out; subst eo54; have hcz55_0 : w53.cell? ⟨gb148, 0, none⟩ = some (.slice none 0 0) := (blk_cell BK148.out 0).trans rfl; have hcz55_1 : w53.cell? ⟨gb148, 1, none⟩ = some (.int .i64 0) := (blk_cell BK148.out 1).trans rfl; have hfz55_0 := blk_frozen BK148.out 0; have hfz55_1 := blk_frozen BK148.out 1) | ((with_reducible refine gate_callee (f := 10) rfl ?_); refine goesL_ (some 9) rfl rfl Try.func10 (by kernel_rfl) rfl #[.agg #[.slice Ao54 t144.length co54, .int .i64 t147]] rfl (by (try simp only [List.map_toArray, List.map_cons, List.map_nil]); first | done | rfl | (simp only [List.length_drop, List.length_take]; rfl)) ?_; (with_reducible refine (topo_Check.calls _ _ t144 t147 t149 t150 _ ?side1 ?side2 A2.out).mono ?_); (case side1 => refine (Kd.N_reads' (e := 40) (base := w.heap.size) (ok := fun k_ => (True ∧ k_ ≠ gb148)) (n := t144.length) (c := co54) ?_).2.2; exact (by (with_reducible repeat (first | apply Kd.N_alloc | apply Kd.N_drewN | apply Kd.N_drew)); exact (Kd.N_mono (Kd.N_far (p := ⟨gb148, 1, none⟩) (Kd.N_far (p := ⟨gb148, 0, none⟩) (Kd.N_mono HO146.out (fun k_ hk => (⟨hk, hk.2⟩ : _ ∧ k_ ≠ gb148))) (fun _ hk => hk.2) (.slice Ao54 t144.length co54)) (fun _ hk => hk.2) (.int .i64 t147)) (fun _ h_ => h_.1)))); (case side2 => exact (Kd.N_reads' HO146.out).2.1); rintro e w56 ⟨rfl, hb⟩; refine ⟨_, rfl, ?_⟩; have n0_ := Aside0.mk (Kd.N_below (by (with_reducible repeat (first | apply Kd.N_alloc | apply Kd.N_drewN | apply Kd.N_drew)); exact (Kd.N_mono (Kd.N_far (p := ⟨gb148, 1, none⟩) (Kd.N_far (p := ⟨gb148, 0, none⟩) (Kd.N_mono HO146.out (fun k_ hk => (⟨hk, hk.2⟩ : _ ∧ k_ ≠ gb148))) (fun _ hk => hk.2) (.slice Ao54 t144.length co54)) (fun _ hk => hk.2) (.int .i64 t147)) (fun _ h_ => h_.1))) hb); have n1_ := Aside0.mk (blk_below (g := gb148) (o := .cells #[.slice Ao54 t144.length co54, .int .i64 t147] 24 (0, 0)) (by (with_reducible repeat (first | refine blk_drewN ?_ _ | refine blk_drew ?_ | refine blk_alloc ?_ _)); refine blk_put (cs := #[.slice Ao54 t144.length co54, .int .i64 0]) ?_ 1 _ rfl; (with_reducible repeat (first | refine blk_drewN ?_ _ | refine blk_drew ?_ | refine blk_alloc ?_ _)); refine blk_put (cs := #[.slice none 0 0, .int .i64 0]) ?_ 0 _ rfl; (with_reducible repeat (first | refine blk_drewN ?_ _ | refine blk_drew ?_ | refine blk_alloc ?_ _)); exact BK148.out) hb); have n2_ := Aside0.mk (below_step (by repeat (first | (with_reducible first | exact HB.out | apply below_alloc | apply pw_below_drewN | apply below_drew1 | refine below_set ?_ GE148.out) | exact HB.out)) hb); clear HO146; clear BK148; clear HB; have HO146 := n0_; have BK148 := n1_; have HB := n2_; clear n0_ n1_ n2_; (try clear hb); (try clear hb2); (try clear hk); (try clear hi); have hcz57_0 : w56.cell? ⟨gb148, 0, none⟩ = some (.slice Ao54 t144.length co54) := (blk_cell BK148.out 0).trans rfl; have hcz57_1 : w56.cell? ⟨gb148, 1, none⟩ = some (.int .i64 t147) := (blk_cell BK148.out 1).trans rfl; have hfz57_0 := blk_frozen BK148.out 0; have hfz57_1 := blk_frozen BK148.out 1) | ((with_reducible refine gate_dst (N := 14) rfl ?_); (try (refine gate_guard (by rfl) ?_; dsimp only)); refine Kd.R_lit (Kd.int .i64) _ 3 ?hg (N := 14) ?hd (xs := ([2] : List Int)) (inner := [.int .i64 2]) (ok := fun _ => True) (okp := fun _ => True) ?hr ?hp (fun _ hk => hk) trivial (Below.refl _ _) (Nat.le_refl _) (by simp) ?_; (case hd => rfl); (case hg => rfl); (case hr => first | (go_simp; done) | (go_simp; rfl)); (case hp => exact (Reps.one (show Kd.M (Kd.int .i64) _ _ _ 2 [.int .i64 2] from rfl) (Reps.none _ _))); intro v152 w58 ho59 hb hg_ hnew_; clear hg_ hnew_; (first | rw [← Ny151.out] at ho59 | (simp only [Int.reduceToNat] at ho59; rw [← Ny151.out] at ho59)); have n0_ := Aside0.mk (Kd.N_elder' (by (with_reducible repeat (first | apply Kd.N_alloc | apply Kd.N_drewN | apply Kd.N_drew)); exact HO146.out) (Kd.R_base ho59) hb); have n1_ := Aside0.mk (Kd.R_lower ho59 (below_size (by repeat (first | (with_reducible first | exact HB.out | apply below_alloc | apply pw_below_drewN | apply below_drew1 | refine below_set ?_ GE148.out) | exact HB.out)))); have n2_ := Aside0.mk (blk_below (g := gb148) (o := .cells #[.slice Ao54 t144.length co54, .int .i64 t147] 24 (0, 0)) (by (with_reducible repeat (first | refine blk_drewN ?_ _ | refine blk_drew ?_ | refine blk_alloc ?_ _)); exact BK148.out) hb); have n3_ := Aside0.mk (below_step (by repeat (first | (with_reducible first | exact HB.out | apply below_alloc | apply pw_below_drewN | apply below_drew1 | refine below_set ?_ GE148.out) | exact HB.out)) hb); clear HO146; clear BK148; clear HB; have HO146 := n0_; have HO153 := n1_; have BK148 := n2_; have HB := n3_; clear n0_ n1_ n2_ n3_; clear hb ho59; obtain ⟨Ao60, co60, eo60⟩ := Kd.R_slice HO153.out; subst eo60) | ((with_reducible refine gate_builtin (b := .append) (xs := #[.tmp 13, .tmp 16]) rfl ?_); (try (refine gate_guard (by rfl) ?_; dsimp only)); at_builtin; refine Kd.N_append k40 (w0 := w) w.heap.size rfl (.tmp 13) (.tmp 16) 22 40 (.agg #[(.int .i64 0), (.slice none 0 0), (.int .i64 0), (.int .i64 0), (.slice none 0 0), (.int .i64 0)]) 80 rfl Try.underlying22 info40 rfl (by decide) (by omega) (.slice Ao54 t144.length co54) t144 (⟨10, y151, (⟨0, 0, ([] : List (S38))⟩ : S38), 1⟩ : S40) [.int .i64 10, .slice Ao60 y151.length co60, .int .i64 0, .int .i64 0, .slice none 0 0, .int .i64 1] (fun k_ => k_ ≠ gb148) (fun k_ => ((fun k_ => k_ ≠ gb148)) k_ ∧ some k_ ≠ (.slice Ao54 t144.length co54 : Value).ownBlock) rfl rfl ?aP (fun _ hk => hk) ?aF ?aO ?aB ?aS ?aL ?_; (case aP => exact (k40_mkF _ _ (⟨10, y151, (⟨0, 0, ([] : List (S38))⟩ : S38), 1⟩ : S40) (Kd.R_reads' (Kd.R_mono (ok' := (fun k_ => ((fun k_ => k_ ≠ gb148)) k_ ∧ some k_ ≠ (.slice Ao54 t144.length co54 : Value).ownBlock)) (Kd.R_types (Kd.R_apart' (HO153.out) (Kd.N_typed HO146.out) (by decide)) BK148.out (by decide)) (fun k_ hk => ⟨hk.2, hk.1.2⟩))).2.1 (Kd.R_F (Kd.R_mono (ok' := (fun k_ => ((fun k_ => k_ ≠ gb148)) k_ ∧ some k_ ≠ (.slice Ao54 t144.length co54 : Value).ownBlock)) (Kd.R_types (Kd.R_apart' (HO153.out) (Kd.N_typed HO146.out) (by decide)) BK148.out (by decide)) (fun k_ hk => ⟨hk.2, hk.1.2⟩))) (Nat.le_refl _) (Kd.F_nil _ _ _))); (case aB => exact (by repeat (first | (with_reducible first | exact HB.out | apply below_alloc | apply pw_below_drewN | apply below_drew1 | refine below_set ?_ GE148.out) | exact HB.out))); (case aF => exact (fun k_ hk => Kd.freshB (g := gb148) (o := .cells #[.slice Ao54 t144.length co54, .int .i64 t147] 24 (0, 0)) (by (with_reducible repeat (first | refine blk_drewN ?_ _ | refine blk_drew ?_ | refine blk_alloc ?_ _)); exact BK148.out) k_ hk)); (case aO => exact (by (with_reducible repeat (first | apply Kd.N_alloc | apply Kd.N_drewN | apply Kd.N_drew)); exact Kd.N_mono HO146.out (fun _ hk => hk.1.2))); (case aS => exact (below_size (by repeat (first | (with_reducible first | exact HB.out | apply below_alloc | apply pw_below_drewN | apply below_drew1 | refine below_set ?_ GE148.out) | exact HB.out)))); (case aL => have := LMc3.out; omega); intro v155 w61 ho hb hg hat; rw [← Ny154.out] at ho; have n0_ := Aside0.mk (blk_grown (g := gb148) (o := .cells #[.slice Ao54 t144.length co54, .int .i64 t147] 24 (0, 0)) (by (with_reducible repeat (first | refine blk_drewN ?_ _ | refine blk_drew ?_ | refine blk_alloc ?_ _)); exact BK148.out) hg (Kd.N_ne HO146.out BK148.out (by decide))); have n1_ := Aside0.mk (hb); have n2_ := Aside0.mk (ho); clear BK148; clear HB; clear HO146; clear HO153; have BK148 := n0_; have HB := n1_; have HO156 := n2_; clear n0_ n1_ n2_; clear ho hb hg hat; obtain ⟨Ao62, co62, eo62⟩ := Kd.N_slice HO156.out; subst eo62; have hcz63_0 : w61.cell? ⟨gb148, 0, none⟩ = some (.slice Ao54 t144.length co54) := (blk_cell BK148.out 0).trans rfl; have hcz63_1 : w61.cell? ⟨gb148, 1, none⟩ = some (.int .i64 t147) := (blk_cell BK148.out 1).trans rfl; have hfz63_0 := blk_frozen BK148.out 0; have hfz63_1 := blk_frozen BK148.out 1) | ((with_reducible refine gate_callee (f := 10) rfl ?_); refine goesL_ (some 21) rfl rfl Try.func10 (by kernel_rfl) rfl #[.agg #[.slice Ao62 y154.length co62, .int .i64 t147]] rfl (by (try simp only [List.map_toArray, List.map_cons, List.map_nil]); first | done | rfl | (simp only [List.length_drop, List.length_take]; rfl)) ?_; (with_reducible refine (topo_Check.calls _ _ y154 t147 t157 t158 _ ?side1 ?side2 A4.out).mono ?_); (case side1 => refine (Kd.N_reads' (e := 40) (base := w.heap.size) (ok := fun k_ => k_ ≠ gb148) (n := y154.length) (c := co62) ?_).2.2; exact (by (with_reducible repeat (first | apply Kd.N_alloc | apply Kd.N_drewN | apply Kd.N_drew)); exact (Kd.N_mono (Kd.N_far (p := ⟨gb148, 0, none⟩) (Kd.N_mono HO156.out (fun k_ hk => (⟨hk, hk⟩ : _ ∧ k_ ≠ gb148))) (fun _ hk => hk.2) (.slice Ao62 y154.length co62)) (fun _ h_ => h_.1)))); (case side2 => exact (Kd.N_reads' HO156.out).2.1); rintro e w64 ⟨rfl, hb⟩; refine ⟨_, rfl, ?_⟩; have n0_ := Aside0.mk (Kd.N_below (by (with_reducible repeat (first | apply Kd.N_alloc | apply Kd.N_drewN | apply Kd.N_drew)); exact (Kd.N_mono (Kd.N_far (p := ⟨gb148, 0, none⟩) (Kd.N_mono HO156.out (fun k_ hk => (⟨hk, hk⟩ : _ ∧ k_ ≠ gb148))) (fun _ hk => hk.2) (.slice Ao62 y154.length co62)) (fun _ h_ => h_.1))) hb); have n1_ := Aside0.mk (blk_below (g := gb148) (o := .cells #[.slice Ao62 y154.length co62, .int .i64 t147] 24 (0, 0)) (by (with_reducible repeat (first | refine blk_drewN ?_ _ | refine blk_drew ?_ | refine blk_alloc ?_ _)); refine blk_put (cs := #[.slice Ao54 t144.length co54, .int .i64 t147]) ?_ 0 _ rfl; (with_reducible repeat (first | refine blk_drewN ?_ _ | refine blk_drew ?_ | refine blk_alloc ?_ _)); exact BK148.out) hb); have n2_ := Aside0.mk (below_step (by repeat (first | (with_reducible first | exact HB.out | apply below_alloc | apply pw_below_drewN | apply below_drew1 | refine below_set ?_ GE148.out) | exact HB.out)) hb); clear HO156; clear BK148; clear HB; have HO156 := n0_; have BK148 := n1_; have HB := n2_; clear n0_ n1_ n2_; (try clear hb); (try clear hb2); (try clear hk); (try clear hi)))
        go_ret
        exact ⟨by first | rfl | (simp [errW_none, errW_some] <;> rfl) | (simp [*, errW_none, errW_some] <;> rfl), by repeat (first | (with_reducible first | exact HB.out | apply below_alloc | apply pw_below_drewN | apply below_drew1 | refine below_set ?_ GE148.out) | exact HB.out)⟩
    · rw [if_neg c5] at H
      have c5b0 : (t149 == (-1)) = false := beq_eq_false_iff_ne.mpr c5
      have c5b1 : (t149 != (-1)) = true := bne_iff_ne.mpr c5
      obtain rfl := Option.some.inj H
      go_enter Try.func8, Try.ntmps8
      go_wp2_with (first | ((with_reducible refine gate_callee (f := 19) rfl ?_); refine goesL_ (some 6) rfl rfl Try.func19 (by kernel_rfl) rfl #[] rfl (by (try simp only [List.map_toArray, List.map_cons, List.map_nil]); first | done | rfl | (simp only [List.length_drop, List.length_take]; rfl)) ?_; (with_reducible refine (tidemilllaw05_chain.calls  t144 t147 _ A1.out).mono ?_); rintro e w65 ⟨v145, rfl, ho0, hb⟩; refine ⟨_, rfl, ?_⟩; have n0_ := Aside0.mk (Kd.N_lower (Kd.N_mono (ok' := fun k_ => True) ho0 (fun k_ hk_ => trivial)) (below_size (by repeat (first | (with_reducible first | exact HB.out | apply below_alloc | apply pw_below_drewN | apply below_drew1) | exact HB.out)))); have n1_ := Aside0.mk (below_step (by repeat (first | (with_reducible first | exact HB.out | apply below_alloc | apply pw_below_drewN | apply below_drew1) | exact HB.out)) hb); clear HB; have HO146 := n0_; have HB := n1_; clear n0_ n1_; (try clear hb); (try clear hb2); (try clear hk); (try clear hi); (try clear ho0)) | ((with_reducible refine gate_dst (N := 1) rfl ?_); (try (refine gate_guard (by rfl) ?_; dsimp only)); refine box_event ?hg (N := 1) ?hd (cs := #[.slice none 0 0, .int .i64 0]) (t := 24) ?hr ?_; (case hd => rfl); (case hg => rfl); (case hr => first | (go_simp; done) | (go_simp; rfl)); intro gb148 hg w66 hbox hb; have n0_ := Aside0.mk (Kd.N_below (Kd.N_elderB (by (with_reducible repeat (first | apply Kd.N_alloc | apply Kd.N_drewN | apply Kd.N_drew)); exact HO146.out) gb148 (Nat.le_of_eq hg.symm)) hb); have n1_ := Aside0.mk (below_step (by repeat (first | (with_reducible first | exact HB.out | apply below_alloc | apply pw_below_drewN | apply below_drew1) | exact HB.out)) hb); have n2_ := Aside0.mk (hbox); have n3_ := Aside0.mk ((by rw [hg]; exact (below_size (by repeat (first | (with_reducible first | exact HB.out | apply below_alloc | apply pw_below_drewN | apply below_drew1) | exact HB.out))) : w.heap.size ≤ gb148)); have n4_ := Aside0.mk ((by rw [hg]; exact (below_size (by repeat (first | (with_reducible first | exact HB.out | apply below_alloc | apply pw_below_drewN | apply below_drew1) | exact HB.out))) : w.heap.size ≤ gb148)); clear HO146; clear HB; have HO146 := n0_; have HB := n1_; have BK148 := n2_; have GW148 := n3_; have GE148 := n4_; clear n0_ n1_ n2_ n3_ n4_; clear hb hbox hg; obtain ⟨Ao67, co67, eo67⟩ := Kd.N_slice HO146.out; subst eo67; have hcz68_0 : w66.cell? ⟨gb148, 0, none⟩ = some (.slice none 0 0) := (blk_cell BK148.out 0).trans rfl; have hcz68_1 : w66.cell? ⟨gb148, 1, none⟩ = some (.int .i64 0) := (blk_cell BK148.out 1).trans rfl; have hfz68_0 := blk_frozen BK148.out 0; have hfz68_1 := blk_frozen BK148.out 1) | ((with_reducible refine gate_callee (f := 10) rfl ?_); refine goesL_ (some 9) rfl rfl Try.func10 (by kernel_rfl) rfl #[.agg #[.slice Ao67 t144.length co67, .int .i64 t147]] rfl (by (try simp only [List.map_toArray, List.map_cons, List.map_nil]); first | done | rfl | (simp only [List.length_drop, List.length_take]; rfl)) ?_; (with_reducible refine (topo_Check.calls _ _ t144 t147 t149 t150 _ ?side1 ?side2 A2.out).mono ?_); (case side1 => refine (Kd.N_reads' (e := 40) (base := w.heap.size) (ok := fun k_ => (True ∧ k_ ≠ gb148)) (n := t144.length) (c := co67) ?_).2.2; exact (by (with_reducible repeat (first | apply Kd.N_alloc | apply Kd.N_drewN | apply Kd.N_drew)); exact (Kd.N_mono (Kd.N_far (p := ⟨gb148, 1, none⟩) (Kd.N_far (p := ⟨gb148, 0, none⟩) (Kd.N_mono HO146.out (fun k_ hk => (⟨hk, hk.2⟩ : _ ∧ k_ ≠ gb148))) (fun _ hk => hk.2) (.slice Ao67 t144.length co67)) (fun _ hk => hk.2) (.int .i64 t147)) (fun _ h_ => h_.1)))); (case side2 => exact (Kd.N_reads' HO146.out).2.1); rintro e w69 ⟨rfl, hb⟩; refine ⟨_, rfl, ?_⟩; have n0_ := Aside0.mk (Kd.N_below (by (with_reducible repeat (first | apply Kd.N_alloc | apply Kd.N_drewN | apply Kd.N_drew)); exact (Kd.N_mono (Kd.N_far (p := ⟨gb148, 1, none⟩) (Kd.N_far (p := ⟨gb148, 0, none⟩) (Kd.N_mono HO146.out (fun k_ hk => (⟨hk, hk.2⟩ : _ ∧ k_ ≠ gb148))) (fun _ hk => hk.2) (.slice Ao67 t144.length co67)) (fun _ hk => hk.2) (.int .i64 t147)) (fun _ h_ => h_.1))) hb); have n1_ := Aside0.mk (blk_below (g := gb148) (o := .cells #[.slice Ao67 t144.length co67, .int .i64 t147] 24 (0, 0)) (by (with_reducible repeat (first | refine blk_drewN ?_ _ | refine blk_drew ?_ | refine blk_alloc ?_ _)); refine blk_put (cs := #[.slice Ao67 t144.length co67, .int .i64 0]) ?_ 1 _ rfl; (with_reducible repeat (first | refine blk_drewN ?_ _ | refine blk_drew ?_ | refine blk_alloc ?_ _)); refine blk_put (cs := #[.slice none 0 0, .int .i64 0]) ?_ 0 _ rfl; (with_reducible repeat (first | refine blk_drewN ?_ _ | refine blk_drew ?_ | refine blk_alloc ?_ _)); exact BK148.out) hb); have n2_ := Aside0.mk (below_step (by repeat (first | (with_reducible first | exact HB.out | apply below_alloc | apply pw_below_drewN | apply below_drew1 | refine below_set ?_ GE148.out) | exact HB.out)) hb); clear HO146; clear BK148; clear HB; have HO146 := n0_; have BK148 := n1_; have HB := n2_; clear n0_ n1_ n2_; (try clear hb); (try clear hb2); (try clear hk); (try clear hi); have hcz70_0 : w69.cell? ⟨gb148, 0, none⟩ = some (.slice Ao67 t144.length co67) := (blk_cell BK148.out 0).trans rfl; have hcz70_1 : w69.cell? ⟨gb148, 1, none⟩ = some (.int .i64 t147) := (blk_cell BK148.out 1).trans rfl; have hfz70_0 := blk_frozen BK148.out 0; have hfz70_1 := blk_frozen BK148.out 1) | ((with_reducible refine gate_dst (N := 14) rfl ?_); (try (refine gate_guard (by rfl) ?_; dsimp only)); refine Kd.R_lit (Kd.int .i64) _ 3 ?hg (N := 14) ?hd (xs := ([2] : List Int)) (inner := [.int .i64 2]) (ok := fun _ => True) (okp := fun _ => True) ?hr ?hp (fun _ hk => hk) trivial (Below.refl _ _) (Nat.le_refl _) (by simp) ?_; (case hd => rfl); (case hg => rfl); (case hr => first | (go_simp; done) | (go_simp; rfl)); (case hp => exact (Reps.one (show Kd.M (Kd.int .i64) _ _ _ 2 [.int .i64 2] from rfl) (Reps.none _ _))); intro v152 w71 ho72 hb hg_ hnew_; clear hg_ hnew_; (first | rw [← Ny151.out] at ho72 | (simp only [Int.reduceToNat] at ho72; rw [← Ny151.out] at ho72)); have n0_ := Aside0.mk (Kd.N_elder' (by (with_reducible repeat (first | apply Kd.N_alloc | apply Kd.N_drewN | apply Kd.N_drew)); exact HO146.out) (Kd.R_base ho72) hb); have n1_ := Aside0.mk (Kd.R_lower ho72 (below_size (by repeat (first | (with_reducible first | exact HB.out | apply below_alloc | apply pw_below_drewN | apply below_drew1 | refine below_set ?_ GE148.out) | exact HB.out)))); have n2_ := Aside0.mk (blk_below (g := gb148) (o := .cells #[.slice Ao67 t144.length co67, .int .i64 t147] 24 (0, 0)) (by (with_reducible repeat (first | refine blk_drewN ?_ _ | refine blk_drew ?_ | refine blk_alloc ?_ _)); exact BK148.out) hb); have n3_ := Aside0.mk (below_step (by repeat (first | (with_reducible first | exact HB.out | apply below_alloc | apply pw_below_drewN | apply below_drew1 | refine below_set ?_ GE148.out) | exact HB.out)) hb); clear HO146; clear BK148; clear HB; have HO146 := n0_; have HO153 := n1_; have BK148 := n2_; have HB := n3_; clear n0_ n1_ n2_ n3_; clear hb ho72; obtain ⟨Ao73, co73, eo73⟩ := Kd.R_slice HO153.out; subst eo73) | ((with_reducible refine gate_builtin (b := .append) (xs := #[.tmp 13, .tmp 16]) rfl ?_); (try (refine gate_guard (by rfl) ?_; dsimp only)); at_builtin; refine Kd.N_append k40 (w0 := w) w.heap.size rfl (.tmp 13) (.tmp 16) 22 40 (.agg #[(.int .i64 0), (.slice none 0 0), (.int .i64 0), (.int .i64 0), (.slice none 0 0), (.int .i64 0)]) 80 rfl Try.underlying22 info40 rfl (by decide) (by omega) (.slice Ao67 t144.length co67) t144 (⟨10, y151, (⟨0, 0, ([] : List (S38))⟩ : S38), 1⟩ : S40) [.int .i64 10, .slice Ao73 y151.length co73, .int .i64 0, .int .i64 0, .slice none 0 0, .int .i64 1] (fun k_ => k_ ≠ gb148) (fun k_ => ((fun k_ => k_ ≠ gb148)) k_ ∧ some k_ ≠ (.slice Ao67 t144.length co67 : Value).ownBlock) rfl rfl ?aP (fun _ hk => hk) ?aF ?aO ?aB ?aS ?aL ?_; (case aP => exact (k40_mkF _ _ (⟨10, y151, (⟨0, 0, ([] : List (S38))⟩ : S38), 1⟩ : S40) (Kd.R_reads' (Kd.R_mono (ok' := (fun k_ => ((fun k_ => k_ ≠ gb148)) k_ ∧ some k_ ≠ (.slice Ao67 t144.length co67 : Value).ownBlock)) (Kd.R_types (Kd.R_apart' (HO153.out) (Kd.N_typed HO146.out) (by decide)) BK148.out (by decide)) (fun k_ hk => ⟨hk.2, hk.1.2⟩))).2.1 (Kd.R_F (Kd.R_mono (ok' := (fun k_ => ((fun k_ => k_ ≠ gb148)) k_ ∧ some k_ ≠ (.slice Ao67 t144.length co67 : Value).ownBlock)) (Kd.R_types (Kd.R_apart' (HO153.out) (Kd.N_typed HO146.out) (by decide)) BK148.out (by decide)) (fun k_ hk => ⟨hk.2, hk.1.2⟩))) (Nat.le_refl _) (Kd.F_nil _ _ _))); (case aB => exact (by repeat (first | (with_reducible first | exact HB.out | apply below_alloc | apply pw_below_drewN | apply below_drew1 | refine below_set ?_ GE148.out) | exact HB.out))); (case aF => exact (fun k_ hk => Kd.freshB (g := gb148) (o := .cells #[.slice Ao67 t144.length co67, .int .i64 t147] 24 (0, 0)) (by (with_reducible repeat (first | refine blk_drewN ?_ _ | refine blk_drew ?_ | refine blk_alloc ?_ _)); exact BK148.out) k_ hk)); (case aO => exact (by (with_reducible repeat (first | apply Kd.N_alloc | apply Kd.N_drewN | apply Kd.N_drew)); exact Kd.N_mono HO146.out (fun _ hk => hk.1.2))); (case aS => exact (below_size (by repeat (first | (with_reducible first | exact HB.out | apply below_alloc | apply pw_below_drewN | apply below_drew1 | refine below_set ?_ GE148.out) | exact HB.out)))); (case aL => have := LMc3.out; omega); intro v155 w74 ho hb hg hat; rw [← Ny154.out] at ho; have n0_ := Aside0.mk (blk_grown (g := gb148) (o := .cells #[.slice Ao67 t144.length co67, .int .i64 t147] 24 (0, 0)) (by (with_reducible repeat (first | refine blk_drewN ?_ _ | refine blk_drew ?_ | refine blk_alloc ?_ _)); exact BK148.out) hg (Kd.N_ne HO146.out BK148.out (by decide))); have n1_ := Aside0.mk (hb); have n2_ := Aside0.mk (ho); clear BK148; clear HB; clear HO146; clear HO153; have BK148 := n0_; have HB := n1_; have HO156 := n2_; clear n0_ n1_ n2_; clear ho hb hg hat; obtain ⟨Ao75, co75, eo75⟩ := Kd.N_slice HO156.out; subst eo75; have hcz76_0 : w74.cell? ⟨gb148, 0, none⟩ = some (.slice Ao67 t144.length co67) := (blk_cell BK148.out 0).trans rfl; have hcz76_1 : w74.cell? ⟨gb148, 1, none⟩ = some (.int .i64 t147) := (blk_cell BK148.out 1).trans rfl; have hfz76_0 := blk_frozen BK148.out 0; have hfz76_1 := blk_frozen BK148.out 1) | ((with_reducible refine gate_callee (f := 10) rfl ?_); refine goesL_ (some 21) rfl rfl Try.func10 (by kernel_rfl) rfl #[.agg #[.slice Ao75 y154.length co75, .int .i64 t147]] rfl (by (try simp only [List.map_toArray, List.map_cons, List.map_nil]); first | done | rfl | (simp only [List.length_drop, List.length_take]; rfl)) ?_; (with_reducible refine (topo_Check.calls _ _ y154 t147 t157 t158 _ ?side1 ?side2 A4.out).mono ?_); (case side1 => refine (Kd.N_reads' (e := 40) (base := w.heap.size) (ok := fun k_ => k_ ≠ gb148) (n := y154.length) (c := co75) ?_).2.2; exact (by (with_reducible repeat (first | apply Kd.N_alloc | apply Kd.N_drewN | apply Kd.N_drew)); exact (Kd.N_mono (Kd.N_far (p := ⟨gb148, 0, none⟩) (Kd.N_mono HO156.out (fun k_ hk => (⟨hk, hk⟩ : _ ∧ k_ ≠ gb148))) (fun _ hk => hk.2) (.slice Ao75 y154.length co75)) (fun _ h_ => h_.1)))); (case side2 => exact (Kd.N_reads' HO156.out).2.1); rintro e w77 ⟨rfl, hb⟩; refine ⟨_, rfl, ?_⟩; have n0_ := Aside0.mk (Kd.N_below (by (with_reducible repeat (first | apply Kd.N_alloc | apply Kd.N_drewN | apply Kd.N_drew)); exact (Kd.N_mono (Kd.N_far (p := ⟨gb148, 0, none⟩) (Kd.N_mono HO156.out (fun k_ hk => (⟨hk, hk⟩ : _ ∧ k_ ≠ gb148))) (fun _ hk => hk.2) (.slice Ao75 y154.length co75)) (fun _ h_ => h_.1))) hb); have n1_ := Aside0.mk (blk_below (g := gb148) (o := .cells #[.slice Ao75 y154.length co75, .int .i64 t147] 24 (0, 0)) (by (with_reducible repeat (first | refine blk_drewN ?_ _ | refine blk_drew ?_ | refine blk_alloc ?_ _)); refine blk_put (cs := #[.slice Ao67 t144.length co67, .int .i64 t147]) ?_ 0 _ rfl; (with_reducible repeat (first | refine blk_drewN ?_ _ | refine blk_drew ?_ | refine blk_alloc ?_ _)); exact BK148.out) hb); have n2_ := Aside0.mk (below_step (by repeat (first | (with_reducible first | exact HB.out | apply below_alloc | apply pw_below_drewN | apply below_drew1 | refine below_set ?_ GE148.out) | exact HB.out)) hb); clear HO156; clear BK148; clear HB; have HO156 := n0_; have BK148 := n1_; have HB := n2_; clear n0_ n1_ n2_; (try clear hb); (try clear hb2); (try clear hk); (try clear hi)))
      go_ret
      exact ⟨by first | rfl | (simp [errW_none, errW_some] <;> rfl) | (simp [*, errW_none, errW_some] <;> rfl), by repeat (first | (with_reducible first | exact HB.out | apply below_alloc | apply pw_below_drewN | apply below_drew1 | refine below_set ?_ GE148.out) | exact HB.out)⟩
  · rw [if_neg c3] at H
    exact absurd H (by simp)

/-! ### tidemillref04_Count: function 15 -/
mutual
def tidemillref04_Count.l0 : Nat → Int → Int → Int → Int → List (S38) → Option (Int)
  | 0, _, _, _, _, _ => none
  | k + 1, x3, x4, x163000, x163001, x163002 => if x4 < (x163002.length : Int) then (if 0 ≤ x4 then ((tidemillref04_Count.f k ((rd_T38 x163002 x4).f0) ((rd_T38 x163002 x4).f1) ((rd_T38 x163002 x4).f2)).bind fun t164 => (tidemillref04_Count.l0 k (wrap64 (x3 + t164)) (wrap64 (x4 + 1)) x163000 x163001 x163002)) else (none)) else (some x3)
def tidemillref04_Count.f : Nat → Int → Int → List (S38) → Option (Int)
  | 0, _, _, _ => none
  | k + 1, a0_0, a0_1, l0_2 => tidemillref04_Count.l0 k 1 0 a0_0 a0_1 l0_2
end
theorem tidemillref04_Count.mono_l : ∀ k, (∀ y0 y1 y2, LeO (tidemillref04_Count.f k y0 y1 y2) (tidemillref04_Count.f (k + 1) y0 y1 y2)) ∧ (∀ y0 y1 y2 y3 y4, LeO (tidemillref04_Count.l0 k y0 y1 y2 y3 y4) (tidemillref04_Count.l0 (k + 1) y0 y1 y2 y3 y4))
  | 0 => ⟨fun _ _ _ r h => by simp [tidemillref04_Count.f] at h, fun _ _ _ _ _ r h => by simp [tidemillref04_Count.l0] at h⟩
  | k + 1 => by
    obtain ⟨ih0, ih1⟩ := tidemillref04_Count.mono_l k
    refine ⟨?_, ?_⟩
    · intro y0 y1 y2
      unfold tidemillref04_Count.f
      repeat' first
      | (with_reducible exact ih0 _ _ _)
      | (with_reducible exact ih1 _ _ _ _ _)
      | (with_reducible exact LeO.refl _)
      | (with_reducible exact LeO.none _)
      | (with_reducible refine LeO.ite ?_ ?_)
      | (with_reducible refine LeO.bind ?_ (fun _ => ?_))
      | exact ih0 _ _ _
      | exact ih1 _ _ _ _ _
      | exact LeO.none _
      | refine LeO.ite ?_ ?_
      | refine LeO.bind ?_ (fun _ => ?_)
    · intro y0 y1 y2 y3 y4
      unfold tidemillref04_Count.l0
      repeat' first
      | (with_reducible exact ih0 _ _ _)
      | (with_reducible exact ih1 _ _ _ _ _)
      | (with_reducible exact LeO.refl _)
      | (with_reducible exact LeO.none _)
      | (with_reducible refine LeO.ite ?_ ?_)
      | (with_reducible refine LeO.bind ?_ (fun _ => ?_))
      | exact ih0 _ _ _
      | exact ih1 _ _ _ _ _
      | exact LeO.none _
      | refine LeO.ite ?_ ?_
      | refine LeO.bind ?_ (fun _ => ?_)
theorem tidemillref04_Count.mono : ∀ a0 a1 a2 k, LeO (tidemillref04_Count.f k a0 a1 a2) (tidemillref04_Count.f (k + 1) a0 a1 a2) := by
  intro a0 a1 a2 k
  obtain ⟨ih0, ih1⟩ := tidemillref04_Count.mono_l k
  exact ih0 a0 a1 a2
set_option maxHeartbeats 8000000 in
set_option maxRecDepth 100000 in
theorem tidemillref04_Count.calls (k : Nat) : ∀ (a0_0 : Int) (a0_1 : Int) (A0_2 : Option Addr) (c0_2 : Nat) (l0_2 : List (S38)) (r : Int) (w : World) (hr0_2 : Kd.C k38 w A0_2 l0_2.length l0_2) (hc0_2 : l0_2.length ≤ c0_2) (h : tidemillref04_Count.f k a0_0 a0_1 l0_2 = some r),
    Calls Try.prog 15 #[.agg #[.int .i64 a0_0, .int .i64 a0_1, .slice A0_2 l0_2.length c0_2]] w fun e w' => e = .returned (.int .i64 r) ∧ Below w.heap.size w w' := by
  induction k using Nat.strongRecOn with
  | _ k ih =>
  intro a0_0 a0_1 A0_2 c0_2 l0_2 r w hr0_2 hc0_2 h
  cases k with
  | zero => exact absurd h (by simp [tidemillref04_Count.f])
  | succ k =>
  simp only [tidemillref04_Count.f] at h
  have hu38 := Try.underlying38
  have HR0_2 := Aside0.mk hr0_2
  have HC0_2 := Aside0.mk hc0_2
  clear hr0_2 hc0_2
  have HB := Aside0.mk (Below.refl w.heap.size w)
  have H : (tidemillref04_Count.l0 k 1 0 a0_0 a0_1 l0_2) = some r := h
  clear h
  have H' := Aside0.mk H
  clear H
  go_enter Try.func15, Try.ntmps15
  go_wp2_with (first | ((with_reducible refine gate_dst (N := 1) rfl ?_); refine box_event ?hg (N := 1) ?hd (cs := #[.int .i64 a0_0, .int .i64 a0_1, .slice A0_2 l0_2.length c0_2]) (t := 38) ?hr ?_; (case hd => rfl); (case hg => rfl); (case hr => first | (go_simp; done) | (go_simp; rfl)); intro gb162 hg w2 hbox hb; have n0_ := Aside0.mk (below_step (by repeat (first | (with_reducible first | exact HB.out | apply below_alloc | apply pw_below_drewN | apply below_drew1) | exact HB.out)) hb); have n1_ := Aside0.mk (hbox); have n2_ := Aside0.mk ((by rw [hg]; exact (below_size (by repeat (first | (with_reducible first | exact HB.out | apply below_alloc | apply pw_below_drewN | apply below_drew1) | exact HB.out))) : w.heap.size ≤ gb162)); have n3_ := Aside0.mk ((by rw [hg]; exact (below_size (by repeat (first | (with_reducible first | exact HB.out | apply below_alloc | apply pw_below_drewN | apply below_drew1) | exact HB.out))) : w.heap.size ≤ gb162)); clear HB; have HB := n0_; have BK162 := n1_; have GW162 := n2_; have GE162 := n3_; clear n0_ n1_ n2_ n3_; clear hb hbox hg))
  go_loopg [3, 4] k (fun kq v3 v4 w' => ∃ (x3_1 : Int) (x4_1 : Int), v3 = .int .i64 x3_1 ∧ v4 = .int .i64 x4_1 ∧ Aside0 (tidemillref04_Count.l0 kq x3_1 x4_1 a0_0 a0_1 l0_2 = some r) ∧ Aside0 (kq ≤ k) ∧ Aside0 (w'.heap[gb162]? = some (.cells #[.int .i64 a0_0, .int .i64 a0_1, (.slice A0_2 l0_2.length c0_2)] 38 (0, 0))) ∧ Aside0 (Below w.heap.size w w'))
  case atStart => exact ⟨(1), (0), (by first | rfl | (simp; done) | (simp [*]; done)), (by first | rfl | (simp; done) | (simp [*]; done)), H', ⟨Nat.le_refl _⟩, ⟨by (with_reducible repeat (first | refine blk_drewN ?_ _ | refine blk_drew ?_ | refine blk_alloc ?_ _)); exact BK162.out⟩, ⟨by repeat (first | (with_reducible first | exact HB.out | apply below_alloc | apply pw_below_drewN | apply below_drew1 | refine below_set ?_ GE162.out) | exact HB.out)⟩⟩
  case round =>
    clear H'
    try clear c1
    try clear p2
    obtain ⟨x3_1, x4_1, rfl, rfl, HA, HK1, BK162, HB⟩ := hrel
    cases gk with
    | zero => exact absurd HA.out (by simp [tidemillref04_Count.l0])
    | succ k1 =>
      have H := HA.out
      clear HA
      simp only [tidemillref04_Count.l0] at H
      by_cases c3 : x4_1 < (l0_2.length : Int)
      · rw [if_pos c3] at H
        have c3b0 : decide (x4_1 < (l0_2.length : Int)) = true := decide_eq_true c3
        clear c3
        by_cases c4 : 0 ≤ x4_1
        · rw [if_pos c4] at H
          have c4b0 : decide (0 ≤ x4_1) = true := decide_eq_true c4
          clear c4
          replace H := Option.bind_eq_some_iff.mp H
          obtain ⟨t164, A50, H⟩ := H
          replace H : (tidemillref04_Count.l0 k1 (wrap64 (x3_1 + t164)) (wrap64 (x4_1 + 1)) a0_0 a0_1 l0_2) = some r := H
          have A5 := Aside0.mk A50
          clear A50
          have H' := Aside0.mk H
          clear H
          have hcz6_0 : wr.cell? ⟨gb162, 0, none⟩ = some (.int .i64 a0_0) := (blk_cell BK162.out 0).trans rfl
          have hcz6_1 : wr.cell? ⟨gb162, 1, none⟩ = some (.int .i64 a0_1) := (blk_cell BK162.out 1).trans rfl
          have hcz6_2 : wr.cell? ⟨gb162, 2, none⟩ = some (.slice A0_2 l0_2.length c0_2) := (blk_cell BK162.out 2).trans rfl
          have hfz6_0 := blk_frozen BK162.out 0
          have hfz6_1 := blk_frozen BK162.out 1
          have hfz6_2 := blk_frozen BK162.out 2
          have p163 : 0 ≤ (x4_1 : Int) := of_decide_eq_true (by first | (with_reducible assumption) | assumption)
          have q163 : x4_1 < (l0_2.length : Int) := of_decide_eq_true (by first | (with_reducible assumption) | assumption)
          obtain ⟨ad163, A163_2, c163_2, e163, hx163_0, hx163_1, hx163_2, hl163_2, hi163_2⟩ := at_T38 HR0_2.out x4_1 p163 q163
          cases e163
          replace hx163_0 := (HB.out.cell (World.block_lt_of_cell? w _ hx163_0)).trans hx163_0
          replace hx163_1 := (HB.out.cell (World.block_lt_of_cell? w _ hx163_1)).trans hx163_1
          replace hx163_2 := (HB.out.cell (World.block_lt_of_cell? w _ hx163_2)).trans hx163_2
          have HR163_2 := Aside0.mk hi163_2
          have HC163_2 := Aside0.mk hl163_2
          clear hi163_2 hl163_2
          replace p163 := eq_true p163
          replace q163 := eq_true q163
          go_wp2_with (first | ((with_reducible refine gate_callee (f := 15) rfl ?_); refine goesL_ (some 18) rfl rfl Try.func15 (by kernel_rfl) rfl #[.agg #[.int .i64 ((rd_T38 l0_2 x4_1).f0), .int .i64 ((rd_T38 l0_2 x4_1).f1), .slice A163_2 ((rd_T38 l0_2 x4_1).f2).length c163_2]] rfl (by (try simp only [List.map_toArray, List.map_cons, List.map_nil]); first | done | rfl | (simp only [List.length_drop, List.length_take]; rfl)) ?_; (with_reducible refine (ih k1 (by have := HK1.out; omega) ((rd_T38 l0_2 x4_1).f0) ((rd_T38 l0_2 x4_1).f1) _ _ ((rd_T38 l0_2 x4_1).f2) t164 _ ?side1 ?side2 A5.out).mono ?_); (case side1 => repeat (first | exact (Kd.C_below HR163_2.out HB.out) | (with_reducible refine Kd.C_alloc ?_ _) | (with_reducible refine Kd.C_drewN ?_ _) | (with_reducible refine Kd.C_drew ?_))); (case side2 => exact HC163_2.out); rintro e w7 ⟨rfl, hb⟩; refine ⟨_, rfl, ?_⟩; have n0_ := Aside0.mk (blk_below (g := gb162) (o := .cells #[.int .i64 a0_0, .int .i64 a0_1, .slice (some ad163) l0_2.length c0_2] 38 (0, 0)) (by (with_reducible repeat (first | refine blk_drewN ?_ _ | refine blk_drew ?_ | refine blk_alloc ?_ _)); exact BK162.out) hb); have n1_ := Aside0.mk (below_step (by repeat (first | (with_reducible first | exact HB.out | apply below_alloc | apply pw_below_drewN | apply below_drew1 | refine below_set ?_ GE162.out) | exact HB.out)) hb); clear BK162; clear HB; have BK162 := n0_; have HB := n1_; clear n0_ n1_; (try clear hb); (try clear hb2); (try clear hk); (try clear hi)))
          go_roundg k1
          case measure => have := HK1.out; omega
          case rel => exact ⟨(wrap64 (x3_1 + t164)), (wrap64 (x4_1 + 1)), (by first | rfl | (simp; done) | (simp [*]; done)), (by first | rfl | (simp; done) | (simp [*]; done)), H', ⟨by have := HK1.out; omega⟩, ⟨by (with_reducible repeat (first | refine blk_drewN ?_ _ | refine blk_drew ?_ | refine blk_alloc ?_ _)); exact BK162.out⟩, ⟨by repeat (first | (with_reducible first | exact HB.out | apply below_alloc | apply pw_below_drewN | apply below_drew1 | refine below_set ?_ GE162.out) | exact HB.out)⟩⟩
        · rw [if_neg c4] at H
          exact absurd H (by simp)
      · rw [if_neg c3] at H
        have c3b0 : decide (x4_1 < (l0_2.length : Int)) = false := decide_eq_false c3
        clear c3
        obtain rfl := Option.some.inj H
        have hcz8_0 : wr.cell? ⟨gb162, 0, none⟩ = some (.int .i64 a0_0) := (blk_cell BK162.out 0).trans rfl
        have hcz8_1 : wr.cell? ⟨gb162, 1, none⟩ = some (.int .i64 a0_1) := (blk_cell BK162.out 1).trans rfl
        have hcz8_2 : wr.cell? ⟨gb162, 2, none⟩ = some (.slice A0_2 l0_2.length c0_2) := (blk_cell BK162.out 2).trans rfl
        have hfz8_0 := blk_frozen BK162.out 0
        have hfz8_1 := blk_frozen BK162.out 1
        have hfz8_2 := blk_frozen BK162.out 2
        go_wp2
        go_ret
        exact ⟨by first | rfl | (simp [errW_none, errW_some] <;> rfl) | (simp [*, errW_none, errW_some] <;> rfl), by repeat (first | (with_reducible first | exact HB.out | apply below_alloc | apply pw_below_drewN | apply below_drew1 | refine below_set ?_ GE162.out) | exact HB.out)⟩

/-! ### tidemilllaw05_small: function 9 -/
def tidemilllaw05_small.l0 : Nat → Int → Int → List (S40) → Int → Option (Bool)
  | 0, _, _, _, _ => none
  | k + 1, x3, x4, x166000, x166001 => if x4 < (x166000.length : Int) then (if x3 ≤ 5000 then (if 0 ≤ x4 then ((tidemillref04_Count.f k ((rd_T40 x166000 x4).f2.f0) ((rd_T40 x166000 x4).f2.f1) ((rd_T40 x166000 x4).f2.f2)).bind fun t167 => (tidemilllaw05_small.l0 k (wrap64 (x3 + t167)) (wrap64 (x4 + 1)) x166000 x166001)) else (none)) else (some (decide (x3 ≤ 5000)))) else (some (decide (x3 ≤ 5000)))
def tidemilllaw05_small.f (k : Nat) (l0_0 : List (S40)) (a0_1 : Int) : Option (Bool) := tidemilllaw05_small.l0 k 0 0 l0_0 a0_1
theorem tidemilllaw05_small.mono_l : ∀ k, (∀ y0 y1 y2 y3, LeO (tidemilllaw05_small.l0 k y0 y1 y2 y3) (tidemilllaw05_small.l0 (k + 1) y0 y1 y2 y3))
  | 0 => fun _ _ _ _ r h => by simp [tidemilllaw05_small.l0] at h
  | k + 1 => by
    have ih0 := tidemilllaw05_small.mono_l k
    · intro y0 y1 y2 y3
      unfold tidemilllaw05_small.l0
      repeat' first
      | (with_reducible exact ih0 _ _ _ _)
      | (with_reducible exact tidemillref04_Count.mono _ _ _ _)
      | (with_reducible exact LeO.refl _)
      | (with_reducible exact LeO.none _)
      | (with_reducible refine LeO.ite ?_ ?_)
      | (with_reducible refine LeO.bind ?_ (fun _ => ?_))
      | exact ih0 _ _ _ _
      | exact tidemillref04_Count.mono _ _ _ _
      | exact LeO.none _
      | refine LeO.ite ?_ ?_
      | refine LeO.bind ?_ (fun _ => ?_)
theorem tidemilllaw05_small.mono : ∀ a0 a1 k, LeO (tidemilllaw05_small.f k a0 a1) (tidemilllaw05_small.f (k + 1) a0 a1) := by
  intro a0 a1 k
  have ih0 := tidemilllaw05_small.mono_l k
  unfold tidemilllaw05_small.f
  repeat' first
      | (with_reducible exact ih0 _ _ _ _)
      | (with_reducible exact tidemillref04_Count.mono _ _ _ _)
      | (with_reducible exact LeO.refl _)
      | (with_reducible exact LeO.none _)
      | (with_reducible refine LeO.ite ?_ ?_)
      | (with_reducible refine LeO.bind ?_ (fun _ => ?_))
      | exact ih0 _ _ _ _
      | exact tidemillref04_Count.mono _ _ _ _
      | exact LeO.none _
      | refine LeO.ite ?_ ?_
      | refine LeO.bind ?_ (fun _ => ?_)
set_option maxHeartbeats 8000000 in
set_option maxRecDepth 100000 in
theorem tidemilllaw05_small.calls (k : Nat) (A0_0 : Option Addr) (c0_0 : Nat) (l0_0 : List (S40)) (a0_1 : Int) (r : Bool) (w : World) (hr0_0 : Kd.C k40 w A0_0 l0_0.length l0_0) (hc0_0 : l0_0.length ≤ c0_0) (h : tidemilllaw05_small.f k l0_0 a0_1 = some r) :
    Calls Try.prog 9 #[.agg #[.slice A0_0 l0_0.length c0_0, .int .i64 a0_1]] w fun e w' => e = .returned (.bool r) ∧ Below w.heap.size w w' := by
  have hu24 := Try.underlying24
  have hu38 := Try.underlying38
  have HR0_0 := Aside0.mk hr0_0
  have HC0_0 := Aside0.mk hc0_0
  clear hr0_0 hc0_0
  have HB := Aside0.mk (Below.refl w.heap.size w)
  have H : (tidemilllaw05_small.l0 k 0 0 l0_0 a0_1) = some r := h
  clear h
  have H' := Aside0.mk H
  clear H
  go_enter Try.func9, Try.ntmps9
  go_wp2_with (first | ((with_reducible refine gate_dst (N := 1) rfl ?_); refine box_event ?hg (N := 1) ?hd (cs := #[.slice A0_0 l0_0.length c0_0, .int .i64 a0_1]) (t := 24) ?hr ?_; (case hd => rfl); (case hg => rfl); (case hr => first | (go_simp; done) | (go_simp; rfl)); intro gb165 hg w2 hbox hb; have n0_ := Aside0.mk (below_step (by repeat (first | (with_reducible first | exact HB.out | apply below_alloc | apply pw_below_drewN | apply below_drew1) | exact HB.out)) hb); have n1_ := Aside0.mk (hbox); have n2_ := Aside0.mk ((by rw [hg]; exact (below_size (by repeat (first | (with_reducible first | exact HB.out | apply below_alloc | apply pw_below_drewN | apply below_drew1) | exact HB.out))) : w.heap.size ≤ gb165)); have n3_ := Aside0.mk ((by rw [hg]; exact (below_size (by repeat (first | (with_reducible first | exact HB.out | apply below_alloc | apply pw_below_drewN | apply below_drew1) | exact HB.out))) : w.heap.size ≤ gb165)); clear HB; have HB := n0_; have BK165 := n1_; have GW165 := n2_; have GE165 := n3_; clear n0_ n1_ n2_ n3_; clear hb hbox hg))
  go_loopg [3, 4] k (fun kq v3 v4 w' => ∃ (x3_1 : Int) (x4_1 : Int), v3 = .int .i64 x3_1 ∧ v4 = .int .i64 x4_1 ∧ Aside0 (tidemilllaw05_small.l0 kq x3_1 x4_1 l0_0 a0_1 = some r) ∧ Aside0 (kq ≤ k) ∧ Aside0 (w'.heap[gb165]? = some (.cells #[(.slice A0_0 l0_0.length c0_0), .int .i64 a0_1] 24 (0, 0))) ∧ Aside0 (Below w.heap.size w w'))
  case atStart => exact ⟨(0), (0), (by first | rfl | (simp; done) | (simp [*]; done)), (by first | rfl | (simp; done) | (simp [*]; done)), H', ⟨Nat.le_refl _⟩, ⟨by (with_reducible repeat (first | refine blk_drewN ?_ _ | refine blk_drew ?_ | refine blk_alloc ?_ _)); exact BK165.out⟩, ⟨by repeat (first | (with_reducible first | exact HB.out | apply below_alloc | apply pw_below_drewN | apply below_drew1 | refine below_set ?_ GE165.out) | exact HB.out)⟩⟩
  case round =>
    clear H'
    try clear p2
    obtain ⟨x3_1, x4_1, rfl, rfl, HA, HK1, BK165, HB⟩ := hrel
    cases gk with
    | zero => exact absurd HA.out (by simp [tidemilllaw05_small.l0])
    | succ k1 =>
      have H := HA.out
      clear HA
      simp only [tidemilllaw05_small.l0] at H
      by_cases c3 : x4_1 < (l0_0.length : Int)
      · rw [if_pos c3] at H
        have c3b0 : decide (x4_1 < (l0_0.length : Int)) = true := decide_eq_true c3
        clear c3
        by_cases c4 : x3_1 ≤ 5000
        · rw [if_pos c4] at H
          have c4b0 : decide (x3_1 ≤ 5000) = true := decide_eq_true c4
          clear c4
          by_cases c5 : 0 ≤ x4_1
          · rw [if_pos c5] at H
            have c5b0 : decide (0 ≤ x4_1) = true := decide_eq_true c5
            clear c5
            replace H := Option.bind_eq_some_iff.mp H
            obtain ⟨t167, A60, H⟩ := H
            replace H : (tidemilllaw05_small.l0 k1 (wrap64 (x3_1 + t167)) (wrap64 (x4_1 + 1)) l0_0 a0_1) = some r := H
            have A6 := Aside0.mk A60
            clear A60
            have H' := Aside0.mk H
            clear H
            have hcz7_0 : wr.cell? ⟨gb165, 0, none⟩ = some (.slice A0_0 l0_0.length c0_0) := (blk_cell BK165.out 0).trans rfl
            have hcz7_1 : wr.cell? ⟨gb165, 1, none⟩ = some (.int .i64 a0_1) := (blk_cell BK165.out 1).trans rfl
            have hfz7_0 := blk_frozen BK165.out 0
            have hfz7_1 := blk_frozen BK165.out 1
            have p166 : 0 ≤ (x4_1 : Int) := of_decide_eq_true (by first | (with_reducible assumption) | assumption)
            have q166 : x4_1 < (l0_0.length : Int) := of_decide_eq_true (by first | (with_reducible assumption) | assumption)
            obtain ⟨ad166, A166_1, c166_1, A166_4, c166_4, e166, hx166_0, hx166_1, hx166_2, hx166_3, hx166_4, hx166_5, hl166_1, hi166_1, hl166_4, hi166_4⟩ := at_T40 HR0_0.out x4_1 p166 q166
            cases e166
            replace hx166_0 := (HB.out.cell (World.block_lt_of_cell? w _ hx166_0)).trans hx166_0
            replace hx166_1 := (HB.out.cell (World.block_lt_of_cell? w _ hx166_1)).trans hx166_1
            replace hx166_2 := (HB.out.cell (World.block_lt_of_cell? w _ hx166_2)).trans hx166_2
            replace hx166_3 := (HB.out.cell (World.block_lt_of_cell? w _ hx166_3)).trans hx166_3
            replace hx166_4 := (HB.out.cell (World.block_lt_of_cell? w _ hx166_4)).trans hx166_4
            replace hx166_5 := (HB.out.cell (World.block_lt_of_cell? w _ hx166_5)).trans hx166_5
            have HR166_1 := Aside0.mk hi166_1
            have HC166_1 := Aside0.mk hl166_1
            clear hi166_1 hl166_1
            have HR166_4 := Aside0.mk hi166_4
            have HC166_4 := Aside0.mk hl166_4
            clear hi166_4 hl166_4
            replace p166 := eq_true p166
            replace q166 := eq_true q166
            go_wp2_with (first | ((with_reducible refine gate_callee (f := 15) rfl ?_); refine goesL_ (some 23) rfl rfl Try.func15 (by kernel_rfl) rfl #[.agg #[.int .i64 ((rd_T40 l0_0 x4_1).f2.f0), .int .i64 ((rd_T40 l0_0 x4_1).f2.f1), .slice A166_4 ((rd_T40 l0_0 x4_1).f2.f2).length c166_4]] rfl (by (try simp only [List.map_toArray, List.map_cons, List.map_nil]); first | done | rfl | (simp only [List.length_drop, List.length_take]; rfl)) ?_; (with_reducible refine (tidemillref04_Count.calls k1 ((rd_T40 l0_0 x4_1).f2.f0) ((rd_T40 l0_0 x4_1).f2.f1) _ _ ((rd_T40 l0_0 x4_1).f2.f2) t167 _ ?side1 ?side2 A6.out).mono ?_); (case side1 => repeat (first | exact (Kd.C_below HR166_4.out HB.out) | (with_reducible refine Kd.C_alloc ?_ _) | (with_reducible refine Kd.C_drewN ?_ _) | (with_reducible refine Kd.C_drew ?_))); (case side2 => exact HC166_4.out); rintro e w8 ⟨rfl, hb⟩; refine ⟨_, rfl, ?_⟩; have n0_ := Aside0.mk (blk_below (g := gb165) (o := .cells #[.slice (some ad166) l0_0.length c0_0, .int .i64 a0_1] 24 (0, 0)) (by (with_reducible repeat (first | refine blk_drewN ?_ _ | refine blk_drew ?_ | refine blk_alloc ?_ _)); exact BK165.out) hb); have n1_ := Aside0.mk (below_step (by repeat (first | (with_reducible first | exact HB.out | apply below_alloc | apply pw_below_drewN | apply below_drew1 | refine below_set ?_ GE165.out) | exact HB.out)) hb); clear BK165; clear HB; have BK165 := n0_; have HB := n1_; clear n0_ n1_; (try clear hb); (try clear hb2); (try clear hk); (try clear hi)))
            go_roundg k1
            case measure => have := HK1.out; omega
            case rel => exact ⟨(wrap64 (x3_1 + t167)), (wrap64 (x4_1 + 1)), (by first | rfl | (simp; done) | (simp [*]; done)), (by first | rfl | (simp; done) | (simp [*]; done)), H', ⟨by have := HK1.out; omega⟩, ⟨by (with_reducible repeat (first | refine blk_drewN ?_ _ | refine blk_drew ?_ | refine blk_alloc ?_ _)); exact BK165.out⟩, ⟨by repeat (first | (with_reducible first | exact HB.out | apply below_alloc | apply pw_below_drewN | apply below_drew1 | refine below_set ?_ GE165.out) | exact HB.out)⟩⟩
          · rw [if_neg c5] at H
            exact absurd H (by simp)
        · rw [if_neg c4] at H
          have c4b0 : decide (x3_1 ≤ 5000) = false := decide_eq_false c4
          clear c4
          obtain rfl := Option.some.inj H
          have hcz9_0 : wr.cell? ⟨gb165, 0, none⟩ = some (.slice A0_0 l0_0.length c0_0) := (blk_cell BK165.out 0).trans rfl
          have hcz9_1 : wr.cell? ⟨gb165, 1, none⟩ = some (.int .i64 a0_1) := (blk_cell BK165.out 1).trans rfl
          have hfz9_0 := blk_frozen BK165.out 0
          have hfz9_1 := blk_frozen BK165.out 1
          go_wp2
          go_ret
          exact ⟨by first | rfl | (simp [errW_none, errW_some] <;> rfl) | (simp [*, errW_none, errW_some] <;> rfl), by repeat (first | (with_reducible first | exact HB.out | apply below_alloc | apply pw_below_drewN | apply below_drew1 | refine below_set ?_ GE165.out) | exact HB.out)⟩
      · rw [if_neg c3] at H
        have c3b0 : decide (x4_1 < (l0_0.length : Int)) = false := decide_eq_false c3
        clear c3
        obtain rfl := Option.some.inj H
        have hcz10_0 : wr.cell? ⟨gb165, 0, none⟩ = some (.slice A0_0 l0_0.length c0_0) := (blk_cell BK165.out 0).trans rfl
        have hcz10_1 : wr.cell? ⟨gb165, 1, none⟩ = some (.int .i64 a0_1) := (blk_cell BK165.out 1).trans rfl
        have hfz10_0 := blk_frozen BK165.out 0
        have hfz10_1 := blk_frozen BK165.out 1
        go_wp2
        go_ret
        exact ⟨by first | rfl | (simp [errW_none, errW_some] <;> rfl) | (simp [*, errW_none, errW_some] <;> rfl), by repeat (first | (with_reducible first | exact HB.out | apply below_alloc | apply pw_below_drewN | apply below_drew1 | refine below_set ?_ GE165.out) | exact HB.out)⟩

/-! ### pack_Uint: function 23 -/
def pack_Uint.l0 : Nat → List Int → Int → Option (List Int)
  | 0, _, _ => none
  | k + 1, x0, x1 => if x1 ≥ 128 then (if x0.length < 140737488355328 then (pack_Uint.l0 k (x0 ++ [Go.bits .or .u8 ((x1) % 256) 128]) (x1 / 128)) else (none)) else (if x0.length < 140737488355328 then (some (x0 ++ [(x1) % 256])) else (none))
def pack_Uint.f (k : Nat) (l0 : List Int) (a1 : Int) : Option (List Int) := (some (([] : List Int) : List Int)).bind fun y168 => (if y168.length + l0.length < 140737488355328 then (pack_Uint.l0 k (y168 ++ l0) a1) else (none))
theorem pack_Uint.mono_l : ∀ k, (∀ y0 y1, LeO (pack_Uint.l0 k y0 y1) (pack_Uint.l0 (k + 1) y0 y1))
  | 0 => fun _ _ r h => by simp [pack_Uint.l0] at h
  | k + 1 => by
    have ih0 := pack_Uint.mono_l k
    · intro y0 y1
      unfold pack_Uint.l0
      repeat' first
      | (with_reducible exact ih0 _ _)
      | (with_reducible exact LeO.refl _)
      | (with_reducible exact LeO.none _)
      | (with_reducible refine LeO.ite ?_ ?_)
      | (with_reducible refine LeO.bind ?_ (fun _ => ?_))
      | exact ih0 _ _
      | exact LeO.none _
      | refine LeO.ite ?_ ?_
      | refine LeO.bind ?_ (fun _ => ?_)
theorem pack_Uint.mono : ∀ a0 a1 k, LeO (pack_Uint.f k a0 a1) (pack_Uint.f (k + 1) a0 a1) := by
  intro a0 a1 k
  have ih0 := pack_Uint.mono_l k
  unfold pack_Uint.f
  repeat' first
      | (with_reducible exact ih0 _ _)
      | (with_reducible exact LeO.refl _)
      | (with_reducible exact LeO.none _)
      | (with_reducible refine LeO.ite ?_ ?_)
      | (with_reducible refine LeO.bind ?_ (fun _ => ?_))
      | exact ih0 _ _
      | exact LeO.none _
      | refine LeO.ite ?_ ?_
      | refine LeO.bind ?_ (fun _ => ?_)
set_option maxHeartbeats 8000000 in
set_option maxRecDepth 100000 in
theorem pack_Uint.calls (k : Nat) (A0 : Option Addr) (c0 : Nat) (l0 : List Int) (a1 : Int) (r : List Int) (w : World) (hr0 : Kd.C (Kd.int .u8) w A0 l0.length l0) (hc0 : l0.length ≤ c0) (h : pack_Uint.f k l0 a1 = some r) :
    Calls Try.prog 23 #[.slice A0 l0.length c0, .int .u64 a1] w fun e w' => ∃ v0_ : Value, e = .returned (v0_) ∧ Kd.R (Kd.int .u8) 5 w' w.heap.size (fun _ => True) v0_ r ∧ Below w.heap.size w w' := by
  have HR0 := Aside0.mk hr0
  have HC0 := Aside0.mk hc0
  clear hr0 hc0
  have HB := Aside0.mk (Below.refl w.heap.size w)
  have H : ((some (([] : List Int) : List Int)).bind fun y168 => (if y168.length + l0.length < 140737488355328 then (pack_Uint.l0 k (y168 ++ l0) a1) else (none))) = some r := h
  clear h
  obtain ⟨y168, hy168⟩ : ∃ y_ : List Int, y_ = (([] : List Int)) := ⟨_, rfl⟩
  replace H : (if y168.length + l0.length < 140737488355328 then (pack_Uint.l0 k (y168 ++ l0) a1) else (none)) = some r := by first | (rw [hy168]; with_reducible exact H) | (have H2_ := (Option.bind_some _ _).symm.trans H; rw [hy168]; with_reducible exact H2_) | (have H2_ := (Option.bind_some _ _).symm.trans H; with_reducible exact H2_) | with_reducible exact H | (rw [hy168]; exact H) | exact H
  have Ny168 := Aside0.mk hy168
  clear hy168
  by_cases c3 : y168.length + l0.length < 140737488355328
  · rw [if_pos c3] at H
    have LMc3 := Aside0.mk c3
    clear c3
    obtain ⟨y171, hy171⟩ : ∃ y_ : List Int, y_ = (y168 ++ l0) := ⟨_, rfl⟩
    replace H : (pack_Uint.l0 k y171 a1) = some r := by first | (rw [hy171]; with_reducible exact H) | (have H2_ := (Option.bind_some _ _).symm.trans H; rw [hy171]; with_reducible exact H2_) | (have H2_ := (Option.bind_some _ _).symm.trans H; with_reducible exact H2_) | with_reducible exact H | (rw [hy171]; exact H) | exact H
    have Ny171 := Aside0.mk hy171
    clear hy171
    have H' := Aside0.mk H
    clear H
    go_enter Try.func23, Try.ntmps23
    go_wp2_with (first | ((with_reducible refine gate_dst (N := 5) rfl ?_); refine Kd.R_lit (Kd.int .u8) _ 5 ?hg (N := 5) ?hd (xs := ([] : List Int)) (inner := []) (ok := fun _ => True) (okp := fun _ => True) ?hr ?hp (fun _ hk => hk) trivial (Below.refl _ _) (Nat.le_refl _) (by simp) ?_; (case hd => rfl); (case hg => rfl); (case hr => first | (go_simp; done) | (go_simp; rfl)); (case hp => exact (Reps.none _ _)); intro v169 w4 ho5 hb hg_ hnew_; clear hg_ hnew_; (first | rw [← Ny168.out] at ho5 | (simp only [Int.reduceToNat] at ho5; rw [← Ny168.out] at ho5)); have n0_ := Aside0.mk (Kd.R_lower ho5 (below_size (by repeat (first | (with_reducible first | exact HB.out | apply below_alloc | apply pw_below_drewN | apply below_drew1) | exact HB.out)))); have n1_ := Aside0.mk (below_step (by repeat (first | (with_reducible first | exact HB.out | apply below_alloc | apply pw_below_drewN | apply below_drew1) | exact HB.out)) hb); clear HB; have HO170 := n0_; have HB := n1_; clear n0_ n1_; clear hb ho5) | ((with_reducible refine gate_builtin (b := .append) (xs := #[.tmp 5, .tmp 6]) rfl ?_); at_builtin; refine Kd.R_append_rows (Kd.int .u8) (w0 := w) w.heap.size rfl (.tmp 5) (.tmp 6) 44 5 (.int .u8 0) 1 rfl Try.underlying44 info5 rfl (by decide) (by omega) v169 y168 l0 _ _ _ (fun _ => True) (fun _ => False) rfl rfl ?aO ?aR (fun _ _ h => h) (fun _ h => h.elim) ?aF ?aB ?aS ?aL ?_; (case aR => repeat (first | exact (Kd.C_below HR0.out HB.out) | (with_reducible refine Kd.C_alloc ?_ _) | (with_reducible refine Kd.C_drewN ?_ _) | (with_reducible refine Kd.C_drew ?_))); (case aB => exact (by repeat (first | (with_reducible first | exact HB.out | apply below_alloc | apply pw_below_drewN | apply below_drew1) | exact HB.out))); (case aF => exact (fun _ _ => trivial)); (case aO => exact (by (with_reducible repeat (first | apply Kd.R_alloc | apply Kd.R_drewN | apply Kd.R_drew)); exact HO170.out)); (case aS => exact (below_size (by repeat (first | (with_reducible first | exact HB.out | apply below_alloc | apply pw_below_drewN | apply below_drew1) | exact HB.out)))); (case aL => have := LMc3.out; omega); intro v172 w6 ho hb hg hat; rw [← Ny171.out] at ho; have n0_ := Aside0.mk (hb); have n1_ := Aside0.mk (ho); clear HB; clear HO170; have HB := n0_; have HO173 := n1_; clear n0_ n1_; clear ho hb hg hat))
    go_loopg [0, 1] k (fun kq v0 v1 w' => ∃ (x0_1 : List Int) (x1_1 : Int), v1 = .int .u64 x1_1 ∧ Aside0 (pack_Uint.l0 kq x0_1 x1_1 = some r) ∧ Aside0 (kq ≤ k) ∧ Aside0 (Kd.R (Kd.int .u8) 5 w' w.heap.size (fun _ => True) v0 x0_1) ∧ Aside0 (Below w.heap.size w w'))
    case atStart => exact ⟨(y171), (a1), (by first | rfl | (simp; done) | (simp [*]; done)), H', ⟨Nat.le_refl _⟩, ⟨by (with_reducible repeat (first | apply Kd.R_alloc | apply Kd.R_drewN | apply Kd.R_drew)); exact HO173.out⟩, ⟨by repeat (first | (with_reducible first | exact HB.out | apply below_alloc | apply pw_below_drewN | apply below_drew1) | exact HB.out)⟩⟩
    case round =>
      clear H'
      try clear c2
      try clear p2
      try clear c3
      obtain ⟨x0_1, x1_1, rfl, HA, HK1, HO_0, HB⟩ := hrel
      cases gk with
      | zero => exact absurd HA.out (by simp [pack_Uint.l0])
      | succ k1 =>
        have H := HA.out
        clear HA
        simp only [pack_Uint.l0] at H
        by_cases c7 : x1_1 ≥ 128
        · rw [if_pos c7] at H
          have c7b0 : decide (128 ≤ x1_1) = true := decide_eq_true c7
          clear c7
          by_cases c8 : x0_1.length < 140737488355328
          · rw [if_pos c8] at H
            have LMc8 := Aside0.mk c8
            clear c8
            obtain ⟨y174, hy174⟩ : ∃ y_ : List Int, y_ = (x0_1 ++ [Go.bits .or .u8 ((x1_1) % 256) 128]) := ⟨_, rfl⟩
            replace H : (pack_Uint.l0 k1 y174 (x1_1 / 128)) = some r := by first | (rw [hy174]; with_reducible exact H) | (have H2_ := (Option.bind_some _ _).symm.trans H; rw [hy174]; with_reducible exact H2_) | (have H2_ := (Option.bind_some _ _).symm.trans H; with_reducible exact H2_) | with_reducible exact H | (rw [hy174]; exact H) | exact H
            have Ny174 := Aside0.mk hy174
            clear hy174
            have H' := Aside0.mk H
            clear H
            go_wp2_with (first | ((with_reducible refine gate_builtin (b := .append) (xs := #[.tmp 10, .tmp 14]) rfl ?_); at_builtin; refine Kd.R_append (Kd.int .u8) (w0 := w) w.heap.size rfl (.tmp 10) (.tmp 14) 44 5 (.int .u8 0) 1 rfl Try.underlying44 info5 rfl (by decide) (by omega) u0 x0_1 (Go.bits .or .u8 ((x1_1) % 256) 128) [.int .u8 (Go.bits .or .u8 ((x1_1) % 256) 128)] (fun _ => True) (fun _ => False) rfl rfl ?aP (fun _ hk => hk.elim) ?aF ?aO ?aB ?aS ?aL ?_; (case aP => exact rfl); (case aB => exact (by repeat (first | (with_reducible first | exact HB.out | apply below_alloc | apply pw_below_drewN | apply below_drew1) | exact HB.out))); (case aF => exact (fun _ _ => trivial)); (case aO => exact (by (with_reducible repeat (first | apply Kd.R_alloc | apply Kd.R_drewN | apply Kd.R_drew)); exact HO_0.out)); (case aS => exact (below_size (by repeat (first | (with_reducible first | exact HB.out | apply below_alloc | apply pw_below_drewN | apply below_drew1) | exact HB.out)))); (case aL => have := LMc8.out; omega); intro v175 w9 ho hb hg hat; rw [← Ny174.out] at ho; have n0_ := Aside0.mk (hb); have n1_ := Aside0.mk (ho); clear HB; clear HO_0; have HB := n0_; have HO176 := n1_; clear n0_ n1_; clear ho hb hg hat))
            go_roundg k1
            case measure => have := HK1.out; omega
            case rel => exact ⟨(y174), (x1_1 / 128), (by first | rfl | (simp; done) | (simp [*]; done)), H', ⟨by have := HK1.out; omega⟩, ⟨by (with_reducible repeat (first | apply Kd.R_alloc | apply Kd.R_drewN | apply Kd.R_drew)); exact HO176.out⟩, ⟨by repeat (first | (with_reducible first | exact HB.out | apply below_alloc | apply pw_below_drewN | apply below_drew1) | exact HB.out)⟩⟩
          · rw [if_neg c8] at H
            exact absurd H (by simp)
        · rw [if_neg c7] at H
          have c7b0 : decide (128 ≤ x1_1) = false := decide_eq_false c7
          clear c7
          by_cases c10 : x0_1.length < 140737488355328
          · rw [if_pos c10] at H
            have LMc10 := Aside0.mk c10
            clear c10
            obtain ⟨y177, hy177⟩ : ∃ y_ : List Int, y_ = (x0_1 ++ [(x1_1) % 256]) := ⟨_, rfl⟩
            replace H : (some y177) = some r := by first | (rw [hy177]; with_reducible exact H) | (have H2_ := (Option.bind_some _ _).symm.trans H; rw [hy177]; with_reducible exact H2_) | (have H2_ := (Option.bind_some _ _).symm.trans H; with_reducible exact H2_) | with_reducible exact H | (rw [hy177]; exact H) | exact H
            have Ny177 := Aside0.mk hy177
            clear hy177
            obtain rfl := Option.some.inj H
            go_wp2_with (first | ((with_reducible refine gate_builtin (b := .append) (xs := #[.tmp 18, .tmp 21]) rfl ?_); at_builtin; refine Kd.R_append (Kd.int .u8) (w0 := w) w.heap.size rfl (.tmp 18) (.tmp 21) 44 5 (.int .u8 0) 1 rfl Try.underlying44 info5 rfl (by decide) (by omega) u0 x0_1 ((x1_1) % 256) [.int .u8 ((x1_1) % 256)] (fun _ => True) (fun _ => False) rfl rfl ?aP (fun _ hk => hk.elim) ?aF ?aO ?aB ?aS ?aL ?_; (case aP => exact rfl); (case aB => exact (by repeat (first | (with_reducible first | exact HB.out | apply below_alloc | apply pw_below_drewN | apply below_drew1) | exact HB.out))); (case aF => exact (fun _ _ => trivial)); (case aO => exact (by (with_reducible repeat (first | apply Kd.R_alloc | apply Kd.R_drewN | apply Kd.R_drew)); exact HO_0.out)); (case aS => exact (below_size (by repeat (first | (with_reducible first | exact HB.out | apply below_alloc | apply pw_below_drewN | apply below_drew1) | exact HB.out)))); (case aL => have := LMc10.out; omega); intro v178 w11 ho hb hg hat; rw [← Ny177.out] at ho; have n0_ := Aside0.mk (hb); have n1_ := Aside0.mk (ho); clear HB; clear HO_0; have HB := n0_; have HO179 := n1_; clear n0_ n1_; clear ho hb hg hat))
            go_ret
            exact ⟨_, by first | rfl | (simp [errW_none, errW_some] <;> rfl) | (simp [*, errW_none, errW_some] <;> rfl), by (with_reducible repeat (first | apply Kd.R_alloc | apply Kd.R_drewN | apply Kd.R_drew)); exact HO179.out, by repeat (first | (with_reducible first | exact HB.out | apply below_alloc | apply pw_below_drewN | apply below_drew1) | exact HB.out)⟩
          · rw [if_neg c10] at H
            exact absurd H (by simp)
  · rw [if_neg c3] at H
    exact absurd H (by simp)

/-! ### pack_Int: function 24 -/
def pack_Int.f (k : Nat) (l0 : List Int) (a1 : Int) : Option (List Int) := (pack_Uint.f k l0 (Go.bits .xor .u64 (IntKind.u64.wrap ((IntKind.u64.wrap (a1)) * 2)) (IntKind.u64.wrap (a1 / 9223372036854775808)))).bind fun t180 => (some t180)
theorem pack_Int.mono : ∀ a0 a1 k, LeO (pack_Int.f k a0 a1) (pack_Int.f (k + 1) a0 a1) := by
  intro a0 a1 k
  unfold pack_Int.f
  repeat' first
      | (with_reducible exact pack_Uint.mono _ _ _)
      | (with_reducible exact LeO.refl _)
      | (with_reducible exact LeO.none _)
      | (with_reducible refine LeO.ite ?_ ?_)
      | (with_reducible refine LeO.bind ?_ (fun _ => ?_))
      | exact pack_Uint.mono _ _ _
      | exact LeO.none _
      | refine LeO.ite ?_ ?_
      | refine LeO.bind ?_ (fun _ => ?_)
set_option maxHeartbeats 8000000 in
set_option maxRecDepth 100000 in
theorem pack_Int.calls (k : Nat) (A0 : Option Addr) (c0 : Nat) (l0 : List Int) (a1 : Int) (r : List Int) (w : World) (hr0 : Kd.C (Kd.int .u8) w A0 l0.length l0) (hc0 : l0.length ≤ c0) (h : pack_Int.f k l0 a1 = some r) :
    Calls Try.prog 24 #[.slice A0 l0.length c0, .int .i64 a1] w fun e w' => ∃ v0_ : Value, e = .returned (v0_) ∧ Kd.R (Kd.int .u8) 5 w' w.heap.size (fun _ => True) v0_ r ∧ Below w.heap.size w w' := by
  have HR0 := Aside0.mk hr0
  have HC0 := Aside0.mk hc0
  clear hr0 hc0
  have HB := Aside0.mk (Below.refl w.heap.size w)
  have H : ((pack_Uint.f k l0 (Go.bits .xor .u64 (IntKind.u64.wrap ((IntKind.u64.wrap (a1)) * 2)) (IntKind.u64.wrap (a1 / 9223372036854775808)))).bind fun t180 => (some t180)) = some r := h
  clear h
  replace H := Option.bind_eq_some_iff.mp H
  obtain ⟨t180, A30, H⟩ := H
  replace H : (some t180) = some r := H
  have A3 := Aside0.mk A30
  clear A30
  obtain rfl := Option.some.inj H
  go_enter Try.func24, Try.ntmps24
  go_wp2_with (first | ((with_reducible refine gate_callee (f := 23) rfl ?_); refine goesL_ (some 13) rfl rfl Try.func23 (by kernel_rfl) rfl #[.slice A0 l0.length c0, .int .u64 (Go.bits .xor .u64 (IntKind.u64.wrap ((IntKind.u64.wrap (a1)) * 2)) (IntKind.u64.wrap (a1 / 9223372036854775808)))] rfl (by (try simp only [List.map_toArray, List.map_cons, List.map_nil]); first | done | rfl | (simp only [List.length_drop, List.length_take]; rfl)) ?_; (with_reducible refine (pack_Uint.calls k _ _ l0 (Go.bits .xor .u64 (IntKind.u64.wrap ((IntKind.u64.wrap (a1)) * 2)) (IntKind.u64.wrap (a1 / 9223372036854775808))) t180 _ ?side1 ?side2 A3.out).mono ?_); (case side1 => repeat (first | exact HR0.out | (with_reducible refine Kd.C_alloc ?_ _) | (with_reducible refine Kd.C_drewN ?_ _) | (with_reducible refine Kd.C_drew ?_))); (case side2 => exact HC0.out); rintro e w4 ⟨v181, rfl, ho0, hb⟩; refine ⟨_, rfl, ?_⟩; have n0_ := Aside0.mk (Kd.R_lower ho0 (below_size (by repeat (first | (with_reducible first | exact HB.out | apply below_alloc | apply pw_below_drewN | apply below_drew1) | exact HB.out)))); have n1_ := Aside0.mk (below_step (by repeat (first | (with_reducible first | exact HB.out | apply below_alloc | apply pw_below_drewN | apply below_drew1) | exact HB.out)) hb); clear HB; have HO182 := n0_; have HB := n1_; clear n0_ n1_; (try clear hb); (try clear hb2); (try clear hk); (try clear hi); (try clear ho0)))
  go_ret
  exact ⟨_, by first | rfl | (simp [errW_none, errW_some] <;> rfl) | (simp [*, errW_none, errW_some] <;> rfl), by (with_reducible repeat (first | apply Kd.R_alloc | apply Kd.R_drewN | apply Kd.R_drew)); exact HO182.out, by repeat (first | (with_reducible first | exact HB.out | apply below_alloc | apply pw_below_drewN | apply below_drew1) | exact HB.out)⟩

end Go.Proofs.Yteanncfmaomhaaa.Ex
