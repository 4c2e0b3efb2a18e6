-- Written by a program of this work (wip/given.py) out of the translation; Lean checks it.
import Derived.Test.YthkilejcddgodaaEx0
import Derived.Test.YthkilejcddgodaaWRepsOne
import Derived.Test.YthkilejcddgodaaWApart
import Derived.Test.YthkilejcddgodaaWKept
import Derived.Test.YthkilejcddgodaaWShare
import Derived.Test.YthkilejcddgodaaEx4
namespace Go.Proofs.Ythkilejcddgodaa.Ex
open Go.RowKit Go.Proofs.YthkilejcddgodaaW.PrintWords Go.Proofs.YthkilejcddgodaaW.PrintLast Go.Proofs.YthkilejcddgodaaW.PrintMore
attribute [local go_sem] max2_int min2_int max_two min_two max_three min_three max_four min_four   -- for this text's walks alone
set_option linter.unusedVariables false
set_option linter.unusedSimpArgs false

/-! ### tidemilllaw17_few: function 14 -/
mutual
def tidemilllaw17_few.j0 : Nat → List (S27) → Option ((List (S27)) × Bool)
  | 0, _ => none
  | k + 1, x0 => tidemilllaw17_few.l0 k x0 0 0
def tidemilllaw17_few.l0 : Nat → List (S27) → Int → Int → Option ((List (S27)) × Bool)
  | 0, _, _, _ => none
  | k + 1, x0, x4, x5 => if x5 < (x0.length : Int) then (if x4 ≤ 3000 then (if 0 ≤ x5 then ((tidemillref04_Count.f k ((rd_T27 x0 x5).f2.f0) ((rd_T27 x0 x5).f2.f1) ((rd_T27 x0 x5).f2.f2)).bind fun t258 => (tidemilllaw17_few.l0 k x0 (wrap64 (x4 + t258)) (wrap64 (x5 + 1)))) else (none)) else (some (x0, decide (x4 ≤ 3000)))) else (some (x0, decide (x4 ≤ 3000)))
end
def tidemilllaw17_few.f (k : Nat) (l0 : List (S27)) : Option ((List (S27)) × Bool) := if (l0.length : Int) > 8 then (if 8 ≤ (l0.length : Int) then (tidemilllaw17_few.j0 k (l0.take 8)) else (none)) else (tidemilllaw17_few.j0 k l0)
theorem tidemilllaw17_few.mono_l : ∀ k, (∀ y0, LeO (tidemilllaw17_few.j0 k y0) (tidemilllaw17_few.j0 (k + 1) y0)) ∧ (∀ y0 y1 y2, LeO (tidemilllaw17_few.l0 k y0 y1 y2) (tidemilllaw17_few.l0 (k + 1) y0 y1 y2))
  | 0 => ⟨fun _ r h => by simp [tidemilllaw17_few.j0] at h, fun _ _ _ r h => by simp [tidemilllaw17_few.l0] at h⟩
  | k + 1 => by
    obtain ⟨ih0, ih1⟩ := tidemilllaw17_few.mono_l k
    refine ⟨?_, ?_⟩
    · intro y0
      unfold tidemilllaw17_few.j0
      repeat' first
      | (with_reducible exact ih0 _)
      | (with_reducible exact ih1 _ _ _)
      | (with_reducible exact tidemillref04_Count.mono _ _ _ _)
      | (with_reducible exact LeO.refl _)
      | (with_reducible exact LeO.none _)
      | (with_reducible refine LeO.ite ?_ ?_)
      | (with_reducible refine LeO.bind ?_ (fun _ => ?_))
      | exact ih0 _
      | exact ih1 _ _ _
      | exact tidemillref04_Count.mono _ _ _ _
      | exact LeO.none _
      | refine LeO.ite ?_ ?_
      | refine LeO.bind ?_ (fun _ => ?_)
    · intro y0 y1 y2
      unfold tidemilllaw17_few.l0
      repeat' first
      | (with_reducible exact ih0 _)
      | (with_reducible exact ih1 _ _ _)
      | (with_reducible exact tidemillref04_Count.mono _ _ _ _)
      | (with_reducible exact LeO.refl _)
      | (with_reducible exact LeO.none _)
      | (with_reducible refine LeO.ite ?_ ?_)
      | (with_reducible refine LeO.bind ?_ (fun _ => ?_))
      | exact ih0 _
      | exact ih1 _ _ _
      | exact tidemillref04_Count.mono _ _ _ _
      | exact LeO.none _
      | refine LeO.ite ?_ ?_
      | refine LeO.bind ?_ (fun _ => ?_)
theorem tidemilllaw17_few.mono : ∀ a0 k, LeO (tidemilllaw17_few.f k a0) (tidemilllaw17_few.f (k + 1) a0) := by
  intro a0 k
  obtain ⟨ih0, ih1⟩ := tidemilllaw17_few.mono_l k
  unfold tidemilllaw17_few.f
  repeat' first
      | (with_reducible exact ih0 _)
      | (with_reducible exact ih1 _ _ _)
      | (with_reducible exact tidemillref04_Count.mono _ _ _ _)
      | (with_reducible exact LeO.refl _)
      | (with_reducible exact LeO.none _)
      | (with_reducible refine LeO.ite ?_ ?_)
      | (with_reducible refine LeO.bind ?_ (fun _ => ?_))
      | exact ih0 _
      | exact ih1 _ _ _
      | exact tidemillref04_Count.mono _ _ _ _
      | exact LeO.none _
      | refine LeO.ite ?_ ?_
      | refine LeO.bind ?_ (fun _ => ?_)
set_option maxHeartbeats 8000000 in
set_option maxRecDepth 100000 in
theorem tidemilllaw17_few.calls (k : Nat) (P0_ : Nat → Prop) (A0 : Option Addr) (c0 : Nat) (l0 : List (S27)) (r1 : List (S27)) (r2 : Bool) (w : World) (hs0 : Kd.V k27 27 w w.heap.size (fun k_ => P0_ k_) (.slice A0 l0.length c0) l0) (h : tidemilllaw17_few.f k l0 = some (r1, r2)) :
    Calls Try.prog 14 #[.slice A0 l0.length c0] w fun e w' => ∃ v0_ : Value, e = .returned (.tuple #[v0_, .bool r2]) ∧ Kd.V k27 27 w' w.heap.size (fun k_ => (P0_ k_ ∨ w.heap.size ≤ k_)) v0_ r1 ∧ Below w.heap.size w w' := by
  have hu25 := Try.underlying25
  have HO0 := Aside0.mk (show Kd.V k27 27 w w.heap.size (fun k_ => (P0_ k_ ∨ w.heap.size ≤ k_)) (.slice A0 l0.length c0) l0 from Kd.V_mono hs0 (fun k_ hk => .inl hk))
  have HB := Aside0.mk (Below.refl w.heap.size w)
  have H : (if (l0.length : Int) > 8 then (if 8 ≤ (l0.length : Int) then (tidemilllaw17_few.j0 k (l0.take 8)) else (none)) else (tidemilllaw17_few.j0 k l0)) = some (r1, r2) := h
  clear h
  have HC2 := Aside0.mk H
  clear H
  go_enter Try.func14, Try.ntmps14
  go_upto_if 8 with (fail)
  go_cut [0] (fun v0 wc => ∃ (kq : Nat) (x0_1 : List (S27)), Aside0 (tidemilllaw17_few.j0 kq x0_1 = some (r1, r2)) ∧ Aside0 (kq ≤ k) ∧ Aside0 (Kd.V k27 27 wc w.heap.size (fun k_ => (P0_ k_ ∨ w.heap.size ≤ k_)) v0 x0_1) ∧ Aside0 (Below w.heap.size w wc))
  case first =>
    have H := HC2.out
    clear HC2
    by_cases c3 : (l0.length : Int) > 8
    · rw [if_pos c3] at H
      have c3b0 : decide (8 < (l0.length : Int)) = true := decide_eq_true c3
      have c3b1 : decide (8 < l0.length) = true := decide_eq_true (by omega)
      clear c3
      (first | rw [c3b0] | (simp only [i64_w, i32_w]; rw [c3b0]) | skip)
      by_cases c4 : 8 ≤ (l0.length : Int)
      · rw [if_pos c4] at H
        have c4b0 := eq_true c4
        have c4b1 : decide (8 ≤ (l0.length : Int)) = true := decide_eq_true c4
        clear c4
        obtain ⟨y252, hy252⟩ : ∃ y_ : List (S27), y_ = (l0.take 8) := ⟨_, rfl⟩
        replace H : (tidemilllaw17_few.j0 k y252) = some (r1, r2) := by first | (rw [hy252]; with_reducible exact H) | (have H2_ := (Option.bind_some _ _).symm.trans H; rw [hy252]; with_reducible exact H2_) | (have H2_ := (Option.bind_some _ _).symm.trans H; with_reducible exact H2_) | with_reducible exact H | (rw [hy252]; exact H) | exact H
        have Ny252 := Aside0.mk hy252
        clear hy252
        have H' := Aside0.mk H
        clear H
        have q5 : (8 : Int) ≤ ((l0.length : Int) : Int) := of_decide_eq_true (by first | (with_reducible assumption) | assumption)
        obtain ⟨i05, hi05, _, hsz5, _⟩ := info_parts info27
        have hroom5 : l0.length ≤ c0 := (Kd.V_reads' HO0.out).2.1
        have hC5 : Kd.F k27 _ _ A0 l0.length l0 := (Kd.V_at (base := w.heap.size) HO0.out).2.2
        have hcut5 := cut_to (P := Try.prog) 40 27 .i64 Try.underlying40 hi05 A0 l0.length c0 8 (by omega) q5 hroom5
        have hr5 := Kd.F_take (m := 8) hC5 (by omega)
        have hy5 : y252.length = (8 : Int).toNat := (by rw [Ny252.out, List.length_take]; omega)
        rw [← Ny252.out] at hr5
        rw [← hy5] at hcut5
        have HO256 := Aside0.mk (show Kd.V k27 27 _ w.heap.size _ (.slice A0 y252.length c0) y252 from Kd.V_mk (by omega) hr5)
        have HC256 := Aside0.mk (show y252.length ≤ c0 from by omega)
        clear hr5 hC5 hroom5 hi05 hsz5
        have KY5 := Aside0.mk hy5
        clear hy5
        replace q5 := eq_true q5
        go_wp2
        go_meet
        case rel => exact ⟨_, (y252), H', ⟨by first | omega | exact Nat.le_refl _⟩, ⟨by (with_reducible repeat (first | apply Kd.V_alloc | apply Kd.V_drewN | apply Kd.V_drew)); exact HO256.out⟩, ⟨by repeat (first | (with_reducible first | exact HB.out | apply below_alloc | apply pw_below_drewN | apply below_drew1) | exact HB.out)⟩⟩
      · rw [if_neg c4] at H
        exact absurd H (by simp)
    · rw [if_neg c3] at H
      have c3b0 : decide (8 < (l0.length : Int)) = false := decide_eq_false c3
      have c3b1 : decide (8 < l0.length) = false := decide_eq_false (by omega)
      clear c3
      (first | rw [c3b0] | (simp only [i64_w, i32_w]; rw [c3b0]) | skip)
      have H' := Aside0.mk H
      clear H
      go_wp2
      go_meet
      case rel => exact ⟨_, (l0), H', ⟨by first | omega | exact Nat.le_refl _⟩, ⟨by (with_reducible repeat (first | apply Kd.V_alloc | apply Kd.V_drewN | apply Kd.V_drew)); exact HO0.out⟩, ⟨by repeat (first | (with_reducible first | exact HB.out | apply below_alloc | apply pw_below_drewN | apply below_drew1) | exact HB.out)⟩⟩
  case rest =>
    clear HC2
    try clear c1
    try clear p2
    try clear c3
    try clear c3b0
    try clear c3b1
    try clear c4
    try clear c4b0
    try clear c4b1
    try clear q5
    try clear q5
    obtain ⟨kq, x0_1, HA, HJ1, HO_0, HB⟩ := hcut
    cases kq with
    | zero => exact absurd HA.out (by simp [tidemilllaw17_few.j0])
    | succ kj1 =>
      have H := HA.out
      clear HA
      simp only [tidemilllaw17_few.j0] at H
      have H' := Aside0.mk H
      clear H
      go_wp2
      go_loopg [4, 5] kj1 (fun kq v4 v5 w' => ∃ (x4_2 : Int) (x5_2 : Int), v4 = .int .i64 x4_2 ∧ v5 = .int .i64 x5_2 ∧ Aside0 (tidemilllaw17_few.l0 kq x0_1 x4_2 x5_2 = some (r1, r2)) ∧ Aside0 (kq ≤ kj1) ∧ Aside0 (Kd.V k27 27 w' w.heap.size (fun k_ => (P0_ k_ ∨ w.heap.size ≤ k_)) u0 x0_1) ∧ Aside0 (Below w.heap.size w w'))
      case atStart => exact ⟨(0), (0), (by first | rfl | (simp; done) | (simp [*]; done)), (by first | rfl | (simp; done) | (simp [*]; done)), H', ⟨Nat.le_refl _⟩, ⟨by (with_reducible repeat (first | apply Kd.V_alloc | apply Kd.V_drewN | apply Kd.V_drew)); exact HO_0.out⟩, ⟨by repeat (first | (with_reducible first | exact HB.out | apply below_alloc | apply pw_below_drewN | apply below_drew1) | exact HB.out)⟩⟩
      case round =>
        clear H'
        try clear c1
        try clear p2
        try clear c3
        try clear c3b0
        try clear c3b1
        try clear c4
        try clear c4b0
        try clear c4b1
        try clear q5
        try clear p2
        try clear q5
        obtain ⟨x4_2, x5_2, rfl, rfl, HA, HK2, HO_0, HB⟩ := hrel
        cases gk with
        | zero => exact absurd HA.out (by simp [tidemilllaw17_few.l0])
        | succ k2 =>
          have H := HA.out
          clear HA
          simp only [tidemilllaw17_few.l0] at H
          by_cases c6 : x5_2 < (x0_1.length : Int)
          · rw [if_pos c6] at H
            have c6b0 : decide (x5_2 < (x0_1.length : Int)) = true := decide_eq_true c6
            clear c6
            by_cases c7 : x4_2 ≤ 3000
            · rw [if_pos c7] at H
              have c7b0 : decide (x4_2 ≤ 3000) = true := decide_eq_true c7
              clear c7
              by_cases c8 : 0 ≤ x5_2
              · rw [if_pos c8] at H
                have c8b0 : decide (0 ≤ x5_2) = true := decide_eq_true c8
                clear c8
                replace H := Option.bind_eq_some_iff.mp H
                obtain ⟨t258, A90, H⟩ := H
                replace H : (tidemilllaw17_few.l0 k2 x0_1 (wrap64 (x4_2 + t258)) (wrap64 (x5_2 + 1))) = some (r1, r2) := H
                have A9 := Aside0.mk A90
                clear A90
                have H' := Aside0.mk H
                clear H
                obtain ⟨Ao10, co10, eo10⟩ := Kd.V_slice HO_0.out
                subst eo10
                have p257 : 0 ≤ (x5_2 : Int) := of_decide_eq_true (by first | (with_reducible assumption) | assumption)
                have q257 : x5_2 < (x0_1.length : Int) := of_decide_eq_true (by first | (with_reducible assumption) | assumption)
                obtain ⟨ad257, A257_1, c257_1, A257_4, c257_4, e257, hx257_0, hx257_1, hx257_2, hx257_3, hx257_4, hx257_5, hl257_1, hi257_1, hl257_4, hi257_4⟩ := at_T27 (Kd.V_reads' HO_0.out).2.2 x5_2 p257 q257
                cases e257
                obtain ⟨ce257, hce257, hMe257, hcc257⟩ := Kd.V_get HO_0.out z27 x5_2 p257 (by first | exact q257 | exact of_decide_eq_true (by first | (with_reducible assumption) | assumption) | (have e_ := (Kd.V_reads' HO_0.out).1; omega))
                obtain ⟨ua257_1, uc257_1, ua257_4, uc257_4, rfl, ul257_1, ge257_1, ul257_4, ge257_4⟩ := k27_openF hMe257
                have hv257_1 := hcc257 1 _ rfl
                rw [add_field _ _ 1 (by omega)] at hv257_1
                replace hv257_1 := Option.some.inj (hv257_1.symm.trans hx257_1)
                injection hv257_1 with hva_ hvn_ hvc_
                rw [hva_] at ge257_1
                rw [hvc_] at ul257_1
                have HL257_1 := Aside0.mk (show Kd.V (Kd.int .i64) 3 _ w.heap.size _ _ ((rd_T27 x0_1 x5_2).f1) from Kd.V_mk ul257_1 ge257_1)
                clear hva_ hvn_ hvc_ ge257_1 ul257_1
                have hv257_4 := hcc257 4 _ rfl
                rw [add_field _ _ 4 (by omega)] at hv257_4
                replace hv257_4 := Option.some.inj (hv257_4.symm.trans hx257_4)
                injection hv257_4 with hva_ hvn_ hvc_
                rw [hva_] at ge257_4
                rw [hvc_] at ul257_4
                have HL257_4 := Aside0.mk (show Kd.V k25 25 _ w.heap.size _ _ ((rd_T27 x0_1 x5_2).f2.f2) from Kd.V_mk ul257_4 ge257_4)
                clear hva_ hvn_ hvc_ ge257_4 ul257_4
                clear hcc257 hce257
                have HR257_1 := Aside0.mk hi257_1
                have HC257_1 := Aside0.mk hl257_1
                clear hi257_1 hl257_1
                have HR257_4 := Aside0.mk hi257_4
                have HC257_4 := Aside0.mk hl257_4
                clear hi257_4 hl257_4
                replace p257 := eq_true p257
                replace q257 := eq_true q257
                go_wp2_with (first | ((with_reducible refine gate_callee (f := 10) rfl ?_); refine goesL_ (some 27) rfl rfl Try.func10 (by kernel_rfl) rfl #[.agg #[.int .i64 ((rd_T27 x0_1 x5_2).f2.f0), .int .i64 ((rd_T27 x0_1 x5_2).f2.f1), .slice A257_4 ((rd_T27 x0_1 x5_2).f2.f2).length c257_4]] rfl (by (try simp only [List.map_toArray, List.map_cons, List.map_nil]); first | done | rfl | (simp only [List.length_drop, List.length_take]; rfl)) ?_; (with_reducible refine (tidemillref04_Count.calls k2 ((rd_T27 x0_1 x5_2).f2.f0) ((rd_T27 x0_1 x5_2).f2.f1) _ _ ((rd_T27 x0_1 x5_2).f2.f2) t258 _ ?side1 ?side2 A9.out).mono ?_); (case side1 => repeat (first | exact (by repeat (first | (with_reducible exact HR257_4.out) | (with_reducible refine Kd.C_alloc ?_ _) | (with_reducible refine Kd.C_drewN ?_ _) | (with_reducible refine Kd.C_drew ?_) | exact HR257_4.out)) | (with_reducible refine Kd.C_alloc ?_ _) | (with_reducible refine Kd.C_drewN ?_ _) | (with_reducible refine Kd.C_drew ?_))); (case side2 => exact HC257_4.out); rintro e w11 ⟨rfl, hb⟩; refine ⟨_, rfl, ?_⟩; have n0_ := Aside0.mk (Kd.V_below (by (with_reducible repeat (first | apply Kd.V_alloc | apply Kd.V_drewN | apply Kd.V_drew)); exact HO_0.out) hb); have n1_ := Aside0.mk (Kd.V_below (by (with_reducible repeat (first | apply Kd.V_alloc | apply Kd.V_drewN | apply Kd.V_drew)); exact HL257_1.out) hb); have n2_ := Aside0.mk (Kd.V_below (by (with_reducible repeat (first | apply Kd.V_alloc | apply Kd.V_drewN | apply Kd.V_drew)); exact HL257_4.out) hb); have n3_ := Aside0.mk (Kd.C_below (by repeat (first | (with_reducible exact HR257_1.out) | (with_reducible refine Kd.C_alloc ?_ _) | (with_reducible refine Kd.C_drewN ?_ _) | (with_reducible refine Kd.C_drew ?_) | exact HR257_1.out)) hb); have n4_ := Aside0.mk (Kd.C_below (by repeat (first | (with_reducible exact HR257_4.out) | (with_reducible refine Kd.C_alloc ?_ _) | (with_reducible refine Kd.C_drewN ?_ _) | (with_reducible refine Kd.C_drew ?_) | exact HR257_4.out)) hb); have n5_ := Aside0.mk (below_step (by repeat (first | (with_reducible first | exact HB.out | apply below_alloc | apply pw_below_drewN | apply below_drew1) | exact HB.out)) hb); clear HO_0; clear HL257_1; clear HL257_4; clear HR257_1; clear HR257_4; clear HB; have HO_0 := n0_; have HL257_1 := n1_; have HL257_4 := n2_; have HR257_1 := n3_; have HR257_4 := n4_; have HB := n5_; clear n0_ n1_ n2_ n3_ n4_ n5_; (try clear hb); (try clear hb2); (try clear hk); (try clear hi)))
                go_roundg k2
                case measure => have := HJ1.out; have := HK2.out; omega
                case rel => exact ⟨(wrap64 (x4_2 + t258)), (wrap64 (x5_2 + 1)), (by first | rfl | (simp; done) | (simp [*]; done)), (by first | rfl | (simp; done) | (simp [*]; done)), H', ⟨by have := HJ1.out; have := HK2.out; omega⟩, ⟨by (with_reducible repeat (first | apply Kd.V_alloc | apply Kd.V_drewN | apply Kd.V_drew)); exact HO_0.out⟩, ⟨by repeat (first | (with_reducible first | exact HB.out | apply below_alloc | apply pw_below_drewN | apply below_drew1) | exact HB.out)⟩⟩
              · rw [if_neg c8] at H
                exact absurd H (by simp)
            · rw [if_neg c7] at H
              have c7b0 : decide (x4_2 ≤ 3000) = false := decide_eq_false c7
              clear c7
              simp only [Option.some.injEq, Prod.mk.injEq] at H
              obtain ⟨rfl, rfl⟩ := H
              obtain ⟨Ao12, co12, eo12⟩ := Kd.V_slice HO_0.out
              subst eo12
              go_wp2
              go_ret2
              exact ⟨_, by first | rfl | (simp [errW_none, errW_some] <;> rfl) | (simp [*, errW_none, errW_some] <;> rfl), by (with_reducible repeat (first | apply Kd.V_alloc | apply Kd.V_drewN | apply Kd.V_drew)); exact HO_0.out, by repeat (first | (with_reducible first | exact HB.out | apply below_alloc | apply pw_below_drewN | apply below_drew1) | exact HB.out)⟩
          · rw [if_neg c6] at H
            have c6b0 : decide (x5_2 < (x0_1.length : Int)) = false := decide_eq_false c6
            clear c6
            simp only [Option.some.injEq, Prod.mk.injEq] at H
            obtain ⟨rfl, rfl⟩ := H
            obtain ⟨Ao13, co13, eo13⟩ := Kd.V_slice HO_0.out
            subst eo13
            go_wp2
            go_ret2
            exact ⟨_, by first | rfl | (simp [errW_none, errW_some] <;> rfl) | (simp [*, errW_none, errW_some] <;> rfl), by (with_reducible repeat (first | apply Kd.V_alloc | apply Kd.V_drewN | apply Kd.V_drew)); exact HO_0.out, by repeat (first | (with_reducible first | exact HB.out | apply below_alloc | apply pw_below_drewN | apply below_drew1) | exact HB.out)⟩

end Go.Proofs.Ythkilejcddgodaa.Ex
