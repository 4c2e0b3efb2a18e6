-- Written by a program of this work (wip/given.py) out of the translation; Lean checks it.
import Derived.Test.YteanncfmaomhaaaEx0
import Derived.Test.YteanncfmaomhaaaWGuard
import Derived.Test.YteanncfmaomhaaaWFoot
import Derived.Test.YteanncfmaomhaaaWN
import Derived.Test.YteanncfmaomhaaaWRepsOne
import Derived.Test.YteanncfmaomhaaaWShare
import Derived.Test.YteanncfmaomhaaaWKept
import Derived.Test.YteanncfmaomhaaaWApart
import Derived.Test.YteanncfmaomhaaaEx3
import Derived.Test.YteanncfmaomhaaaTpCheck
namespace Go.Proofs.Yteanncfmaomhaaa.Ex
open Go.RowKit Go.Proofs.YteanncfmaomhaaaW.PrintWords Go.Proofs.YteanncfmaomhaaaW.PrintLast Go.Proofs.YteanncfmaomhaaaW.PrintMore
attribute [local go_sem] max2_int min2_int max_two min_two max_three min_three max_four min_four   -- for this text's walks alone
set_option linter.unusedVariables false
set_option linter.unusedSimpArgs false

/-! ### tidemilllaw05_TopoRings: function 4 -/
mutual
def tidemilllaw05_TopoRings.l0 : Nat → Bool → Int → List (S40) → Int → Option (Bool)
  | 0, _, _, _, _ => none
  | k + 1, x3, x6, x223000, x223001 => if x6 < (x223000.length : Int) then (if 0 ≤ x6 then ((topo_Users.f k x223000 x223001 x6).bind fun t229 => (if ((((rd_T40 x223000 x6).f0) == 1) != ((((rd_T40 x223000 x6).f1).length : Int) == 0)) = true then (tidemilllaw05_TopoRings.j1 k x3 x6 t229 true x223000 x223001) else (if ((rd_T40 x223000 x6).f0) = 10 then (tidemilllaw05_TopoRings.j1 k x3 x6 t229 ((t229.length : Int) != 0) x223000 x223001) else (tidemilllaw05_TopoRings.j1 k x3 x6 t229 false x223000 x223001)))) else (none)) else (some x3)
def tidemilllaw05_TopoRings.j1 : Nat → Bool → Int → List Int → Bool → List (S40) → Int → Option (Bool)
  | 0, _, _, _, _, _, _ => none
  | k + 1, x3, x6, x8, x57, x223000, x223001 => if x57 = true then (some false) else (tidemilllaw05_TopoRings.l1 k x3 x6 x8 0 x223000 x223001)
def tidemilllaw05_TopoRings.l1 : Nat → Bool → Int → List Int → Int → List (S40) → Int → Option (Bool)
  | 0, _, _, _, _, _, _ => none
  | k + 1, x3, x6, x8, x9, x223000, x223001 => if x9 < (x8.length : Int) then (tidemilllaw05_TopoRings.l2 k x3 x6 x8 x9 false 0 x223000 x223001) else (tidemilllaw05_TopoRings.l0 k x3 (wrap64 (x6 + 1)) x223000 x223001)
def tidemilllaw05_TopoRings.l2 : Nat → Bool → Int → List Int → Int → Bool → Int → List (S40) → Int → Option (Bool)
  | 0, _, _, _, _, _, _, _, _ => none
  | k + 1, x3, x6, x8, x9, x10, x11, x223000, x223001 => if 0 ≤ x9 then (if x9 < (x8.length : Int) then (if 0 ≤ (rd x8 x9) then (if (rd x8 x9) < (x223000.length : Int) then (if x11 < (((rd_T40 x223000 (rd x8 x9)).f1).length : Int) then (if x10 = true then (tidemilllaw05_TopoRings.l2 k x3 x6 x8 x9 true (wrap64 (x11 + 1)) x223000 x223001) else (if 0 ≤ x11 then (tidemilllaw05_TopoRings.l2 k x3 x6 x8 x9 ((rd ((rd_T40 x223000 (rd x8 x9)).f1) x11) == x6) (wrap64 (x11 + 1)) x223000 x223001) else (none))) else (if (rd x8 x9) ≤ x6 then (some false) else (if x10 = true then (tidemilllaw05_TopoRings.l1 k x3 x6 x8 (wrap64 (x9 + 1)) x223000 x223001) else (some false)))) else (none)) else (none)) else (none)) else (none)
end
def tidemilllaw05_TopoRings.f (k : Nat) (l0_0 : List (S40)) (a0_1 : Int) : Option (Bool) := (tidemilllaw05_shown.f k).bind fun t223 => ((tidemilllaw05_small.f k l0_0 a0_1).bind fun t224 => (if t224 = true then ((topo_Check.f l0_0 a0_1).bind fun bt225 => (if bt225.2 = 0 then (tidemilllaw05_TopoRings.l0 k t223 0 l0_0 a0_1) else (some t223))) else (some t223)))
theorem tidemilllaw05_TopoRings.mono_l : ∀ k, (∀ y0 y1 y2 y3, LeO (tidemilllaw05_TopoRings.l0 k y0 y1 y2 y3) (tidemilllaw05_TopoRings.l0 (k + 1) y0 y1 y2 y3)) ∧ (∀ y0 y1 y2 y3 y4 y5, LeO (tidemilllaw05_TopoRings.j1 k y0 y1 y2 y3 y4 y5) (tidemilllaw05_TopoRings.j1 (k + 1) y0 y1 y2 y3 y4 y5)) ∧ (∀ y0 y1 y2 y3 y4 y5, LeO (tidemilllaw05_TopoRings.l1 k y0 y1 y2 y3 y4 y5) (tidemilllaw05_TopoRings.l1 (k + 1) y0 y1 y2 y3 y4 y5)) ∧ (∀ y0 y1 y2 y3 y4 y5 y6 y7, LeO (tidemilllaw05_TopoRings.l2 k y0 y1 y2 y3 y4 y5 y6 y7) (tidemilllaw05_TopoRings.l2 (k + 1) y0 y1 y2 y3 y4 y5 y6 y7))
  | 0 => ⟨fun _ _ _ _ r h => by simp [tidemilllaw05_TopoRings.l0] at h, fun _ _ _ _ _ _ r h => by simp [tidemilllaw05_TopoRings.j1] at h, fun _ _ _ _ _ _ r h => by simp [tidemilllaw05_TopoRings.l1] at h, fun _ _ _ _ _ _ _ _ r h => by simp [tidemilllaw05_TopoRings.l2] at h⟩
  | k + 1 => by
    obtain ⟨ih0, ih1, ih2, ih3⟩ := tidemilllaw05_TopoRings.mono_l k
    refine ⟨?_, ?_, ?_, ?_⟩
    · intro y0 y1 y2 y3
      unfold tidemilllaw05_TopoRings.l0
      repeat' first
      | (with_reducible exact ih0 _ _ _ _)
      | (with_reducible exact ih1 _ _ _ _ _ _)
      | (with_reducible exact ih2 _ _ _ _ _ _)
      | (with_reducible exact ih3 _ _ _ _ _ _ _ _)
      | (with_reducible exact tidemilllaw05_shown.mono _)
      | (with_reducible exact tidemilllaw05_small.mono _ _ _)
      | (with_reducible exact topo_Users.mono _ _ _ _)
      | (with_reducible exact LeO.refl _)
      | (with_reducible exact LeO.none _)
      | (with_reducible refine LeO.ite ?_ ?_)
      | (with_reducible refine LeO.bind ?_ (fun _ => ?_))
      | exact ih0 _ _ _ _
      | exact ih1 _ _ _ _ _ _
      | exact ih2 _ _ _ _ _ _
      | exact ih3 _ _ _ _ _ _ _ _
      | exact tidemilllaw05_shown.mono _
      | exact tidemilllaw05_small.mono _ _ _
      | exact topo_Users.mono _ _ _ _
      | exact LeO.none _
      | refine LeO.ite ?_ ?_
      | refine LeO.bind ?_ (fun _ => ?_)
    · intro y0 y1 y2 y3 y4 y5
      unfold tidemilllaw05_TopoRings.j1
      repeat' first
      | (with_reducible exact ih0 _ _ _ _)
      | (with_reducible exact ih1 _ _ _ _ _ _)
      | (with_reducible exact ih2 _ _ _ _ _ _)
      | (with_reducible exact ih3 _ _ _ _ _ _ _ _)
      | (with_reducible exact tidemilllaw05_shown.mono _)
      | (with_reducible exact tidemilllaw05_small.mono _ _ _)
      | (with_reducible exact topo_Users.mono _ _ _ _)
      | (with_reducible exact LeO.refl _)
      | (with_reducible exact LeO.none _)
      | (with_reducible refine LeO.ite ?_ ?_)
      | (with_reducible refine LeO.bind ?_ (fun _ => ?_))
      | exact ih0 _ _ _ _
      | exact ih1 _ _ _ _ _ _
      | exact ih2 _ _ _ _ _ _
      | exact ih3 _ _ _ _ _ _ _ _
      | exact tidemilllaw05_shown.mono _
      | exact tidemilllaw05_small.mono _ _ _
      | exact topo_Users.mono _ _ _ _
      | exact LeO.none _
      | refine LeO.ite ?_ ?_
      | refine LeO.bind ?_ (fun _ => ?_)
    · intro y0 y1 y2 y3 y4 y5
      unfold tidemilllaw05_TopoRings.l1
      repeat' first
      | (with_reducible exact ih0 _ _ _ _)
      | (with_reducible exact ih1 _ _ _ _ _ _)
      | (with_reducible exact ih2 _ _ _ _ _ _)
      | (with_reducible exact ih3 _ _ _ _ _ _ _ _)
      | (with_reducible exact tidemilllaw05_shown.mono _)
      | (with_reducible exact tidemilllaw05_small.mono _ _ _)
      | (with_reducible exact topo_Users.mono _ _ _ _)
      | (with_reducible exact LeO.refl _)
      | (with_reducible exact LeO.none _)
      | (with_reducible refine LeO.ite ?_ ?_)
      | (with_reducible refine LeO.bind ?_ (fun _ => ?_))
      | exact ih0 _ _ _ _
      | exact ih1 _ _ _ _ _ _
      | exact ih2 _ _ _ _ _ _
      | exact ih3 _ _ _ _ _ _ _ _
      | exact tidemilllaw05_shown.mono _
      | exact tidemilllaw05_small.mono _ _ _
      | exact topo_Users.mono _ _ _ _
      | exact LeO.none _
      | refine LeO.ite ?_ ?_
      | refine LeO.bind ?_ (fun _ => ?_)
    · intro y0 y1 y2 y3 y4 y5 y6 y7
      unfold tidemilllaw05_TopoRings.l2
      repeat' first
      | (with_reducible exact ih0 _ _ _ _)
      | (with_reducible exact ih1 _ _ _ _ _ _)
      | (with_reducible exact ih2 _ _ _ _ _ _)
      | (with_reducible exact ih3 _ _ _ _ _ _ _ _)
      | (with_reducible exact tidemilllaw05_shown.mono _)
      | (with_reducible exact tidemilllaw05_small.mono _ _ _)
      | (with_reducible exact topo_Users.mono _ _ _ _)
      | (with_reducible exact LeO.refl _)
      | (with_reducible exact LeO.none _)
      | (with_reducible refine LeO.ite ?_ ?_)
      | (with_reducible refine LeO.bind ?_ (fun _ => ?_))
      | exact ih0 _ _ _ _
      | exact ih1 _ _ _ _ _ _
      | exact ih2 _ _ _ _ _ _
      | exact ih3 _ _ _ _ _ _ _ _
      | exact tidemilllaw05_shown.mono _
      | exact tidemilllaw05_small.mono _ _ _
      | exact topo_Users.mono _ _ _ _
      | exact LeO.none _
      | refine LeO.ite ?_ ?_
      | refine LeO.bind ?_ (fun _ => ?_)
theorem tidemilllaw05_TopoRings.mono : ∀ a0 a1 k, LeO (tidemilllaw05_TopoRings.f k a0 a1) (tidemilllaw05_TopoRings.f (k + 1) a0 a1) := by
  intro a0 a1 k
  obtain ⟨ih0, ih1, ih2, ih3⟩ := tidemilllaw05_TopoRings.mono_l k
  unfold tidemilllaw05_TopoRings.f
  repeat' first
      | (with_reducible exact ih0 _ _ _ _)
      | (with_reducible exact ih1 _ _ _ _ _ _)
      | (with_reducible exact ih2 _ _ _ _ _ _)
      | (with_reducible exact ih3 _ _ _ _ _ _ _ _)
      | (with_reducible exact tidemilllaw05_shown.mono _)
      | (with_reducible exact tidemilllaw05_small.mono _ _ _)
      | (with_reducible exact topo_Users.mono _ _ _ _)
      | (with_reducible exact LeO.refl _)
      | (with_reducible exact LeO.none _)
      | (with_reducible refine LeO.ite ?_ ?_)
      | (with_reducible refine LeO.bind ?_ (fun _ => ?_))
      | exact ih0 _ _ _ _
      | exact ih1 _ _ _ _ _ _
      | exact ih2 _ _ _ _ _ _
      | exact ih3 _ _ _ _ _ _ _ _
      | exact tidemilllaw05_shown.mono _
      | exact tidemilllaw05_small.mono _ _ _
      | exact topo_Users.mono _ _ _ _
      | exact LeO.none _
      | refine LeO.ite ?_ ?_
      | refine LeO.bind ?_ (fun _ => ?_)
set_option maxHeartbeats 8000000 in
set_option maxRecDepth 100000 in
theorem tidemilllaw05_TopoRings.calls (k : Nat) (A0_0 : Option Addr) (c0_0 : Nat) (l0_0 : List (S40)) (a0_1 : Int) (r : Bool) (w : World) (hr0_0 : Kd.C k40 w A0_0 l0_0.length l0_0) (hc0_0 : l0_0.length ≤ c0_0) (h : tidemilllaw05_TopoRings.f k l0_0 a0_1 = some r) :
    Calls Try.prog 4 #[.agg #[.slice A0_0 l0_0.length c0_0, .int .i64 a0_1]] w fun e w' => e = .returned (.bool r) ∧ Below w.heap.size w w' := by
  have hu24 := Try.underlying24
  have hu40 := Try.underlying40
  have HR0_0 := Aside0.mk hr0_0
  have HC0_0 := Aside0.mk hc0_0
  clear hr0_0 hc0_0
  have HB := Aside0.mk (Below.refl w.heap.size w)
  have H : ((tidemilllaw05_shown.f k).bind fun t223 => ((tidemilllaw05_small.f k l0_0 a0_1).bind fun t224 => (if t224 = true then ((topo_Check.f l0_0 a0_1).bind fun bt225 => (if bt225.2 = 0 then (tidemilllaw05_TopoRings.l0 k t223 0 l0_0 a0_1) else (some t223))) else (some t223)))) = some r := h
  clear h
  replace H := Option.bind_eq_some_iff.mp H
  obtain ⟨t223, A20, H⟩ := H
  replace H : ((tidemilllaw05_small.f k l0_0 a0_1).bind fun t224 => (if t224 = true then ((topo_Check.f l0_0 a0_1).bind fun bt225 => (if bt225.2 = 0 then (tidemilllaw05_TopoRings.l0 k t223 0 l0_0 a0_1) else (some t223))) else (some t223))) = some r := H
  have A2 := Aside0.mk A20
  clear A20
  replace H := Option.bind_eq_some_iff.mp H
  obtain ⟨t224, A30, H⟩ := H
  replace H : (if t224 = true then ((topo_Check.f l0_0 a0_1).bind fun bt225 => (if bt225.2 = 0 then (tidemilllaw05_TopoRings.l0 k t223 0 l0_0 a0_1) else (some t223))) else (some t223)) = some r := H
  have A3 := Aside0.mk A30
  clear A30
  by_cases c4 : t224 = true
  · subst c4
    have H1 : ((topo_Check.f l0_0 a0_1).bind fun bt225 => (if bt225.2 = 0 then (tidemilllaw05_TopoRings.l0 k t223 0 l0_0 a0_1) else (some t223))) = some r := by rw [if_pos rfl] at H; exact H
    clear H
    have H := H1
    clear H1
    replace H := Option.bind_eq_some_iff.mp H
    obtain ⟨⟨t225, t226⟩, A50, H⟩ := H
    replace H : (if t226 = 0 then (tidemilllaw05_TopoRings.l0 k t223 0 l0_0 a0_1) else (some t223)) = some r := H
    have A5 := Aside0.mk A50
    clear A50
    by_cases c6 : t226 = 0
    · rw [if_pos c6] at H
      have c6b0 : (t226 == 0) = true := beq_iff_eq.mpr c6
      have c6b1 : (t226 != 0) = false := bne_eq_false_iff_eq.mpr c6
      clear c6
      have H' := Aside0.mk H
      clear H
      go_enter Try.func4, Try.ntmps4
      go_wp2_with (first | ((with_reducible refine gate_dst (N := 1) rfl ?_); (try (refine gate_guard (by rfl) ?_; dsimp only)); refine box_event ?hg (N := 1) ?hd (cs := #[.slice A0_0 l0_0.length c0_0, .int .i64 a0_1]) (t := 24) ?hr ?_; (case hd => rfl); (case hg => rfl); (case hr => first | (go_simp; done) | (go_simp; rfl)); intro gb222 hg w7 hbox hb; have n0_ := Aside0.mk (below_step (by repeat (first | (with_reducible first | exact HB.out | apply below_alloc | apply pw_below_drewN | apply below_drew1) | exact HB.out)) hb); have n1_ := Aside0.mk (hbox); have n2_ := Aside0.mk ((by rw [hg]; exact (below_size (by repeat (first | (with_reducible first | exact HB.out | apply below_alloc | apply pw_below_drewN | apply below_drew1) | exact HB.out))) : w.heap.size ≤ gb222)); have n3_ := Aside0.mk ((by rw [hg]; exact (below_size (by repeat (first | (with_reducible first | exact HB.out | apply below_alloc | apply pw_below_drewN | apply below_drew1) | exact HB.out))) : w.heap.size ≤ gb222)); clear HB; have HB := n0_; have BK222 := n1_; have GW222 := n2_; have GE222 := n3_; clear n0_ n1_ n2_ n3_; clear hb hbox hg) | (go_at_call 8; (with_reducible refine (tidemilllaw05_shown.calls k  t223 _ A2.out).mono ?_); rintro e w8 ⟨rfl, hb⟩; have n0_ := Aside0.mk (blk_below (g := gb222) (o := .cells #[.slice A0_0 l0_0.length c0_0, .int .i64 a0_1] 24 (0, 0)) (by (with_reducible repeat (first | refine blk_drewN ?_ _ | refine blk_drew ?_ | refine blk_alloc ?_ _)); exact BK222.out) hb); have n1_ := Aside0.mk (below_step (by repeat (first | (with_reducible first | exact HB.out | apply below_alloc | apply pw_below_drewN | apply below_drew1 | refine below_set ?_ GE222.out) | exact HB.out)) hb); clear BK222; clear HB; have BK222 := n0_; have HB := n1_; clear n0_ n1_; (try clear hb); (try clear hb2); (try clear hk); (try clear hi); have hcz9_0 : w8.cell? ⟨gb222, 0, none⟩ = some (.slice A0_0 l0_0.length c0_0) := (blk_cell BK222.out 0).trans rfl; have hcz9_1 : w8.cell? ⟨gb222, 1, none⟩ = some (.int .i64 a0_1) := (blk_cell BK222.out 1).trans rfl; have hfz9_0 := blk_frozen BK222.out 0; have hfz9_1 := blk_frozen BK222.out 1) | (go_at_call 9; (with_reducible refine (tidemilllaw05_small.calls k _ _ l0_0 a0_1 true _ ?side1 ?side2 A3.out).mono ?_); (case side1 => repeat (first | exact (Kd.C_below HR0_0.out HB.out) | (with_reducible refine Kd.C_alloc ?_ _) | (with_reducible refine Kd.C_drewN ?_ _) | (with_reducible refine Kd.C_drew ?_))); (case side2 => exact HC0_0.out); rintro e w10 ⟨rfl, hb⟩; have n0_ := Aside0.mk (blk_below (g := gb222) (o := .cells #[.slice A0_0 l0_0.length c0_0, .int .i64 a0_1] 24 (0, 0)) (by (with_reducible repeat (first | refine blk_drewN ?_ _ | refine blk_drew ?_ | refine blk_alloc ?_ _)); exact BK222.out) hb); have n1_ := Aside0.mk (below_step (by repeat (first | (with_reducible first | exact HB.out | apply below_alloc | apply pw_below_drewN | apply below_drew1 | refine below_set ?_ GE222.out) | exact HB.out)) hb); clear BK222; clear HB; have BK222 := n0_; have HB := n1_; clear n0_ n1_; (try clear hb); (try clear hb2); (try clear hk); (try clear hi); have hcz11_0 : w10.cell? ⟨gb222, 0, none⟩ = some (.slice A0_0 l0_0.length c0_0) := (blk_cell BK222.out 0).trans rfl; have hcz11_1 : w10.cell? ⟨gb222, 1, none⟩ = some (.int .i64 a0_1) := (blk_cell BK222.out 1).trans rfl; have hfz11_0 := blk_frozen BK222.out 0; have hfz11_1 := blk_frozen BK222.out 1) | (go_at_call 10; (with_reducible refine (topo_Check.calls _ _ l0_0 a0_1 t225 t226 _ ?side1 ?side2 A5.out).mono ?_); (case side1 => repeat (first | exact (Kd.C_below HR0_0.out HB.out) | (with_reducible refine Kd.C_alloc ?_ _) | (with_reducible refine Kd.C_drewN ?_ _) | (with_reducible refine Kd.C_drew ?_))); (case side2 => exact HC0_0.out); rintro e w12 ⟨rfl, hb⟩; have n0_ := Aside0.mk (blk_below (g := gb222) (o := .cells #[.slice A0_0 l0_0.length c0_0, .int .i64 a0_1] 24 (0, 0)) (by (with_reducible repeat (first | refine blk_drewN ?_ _ | refine blk_drew ?_ | refine blk_alloc ?_ _)); exact BK222.out) hb); have n1_ := Aside0.mk (below_step (by repeat (first | (with_reducible first | exact HB.out | apply below_alloc | apply pw_below_drewN | apply below_drew1 | refine below_set ?_ GE222.out) | exact HB.out)) hb); clear BK222; clear HB; have BK222 := n0_; have HB := n1_; clear n0_ n1_; (try clear hb); (try clear hb2); (try clear hk); (try clear hi)))
      repeat (go_quiet (first | ((with_reducible refine gate_dst (N := 1) rfl ?_); (try (refine gate_guard (by rfl) ?_; dsimp only)); refine box_event ?hg (N := 1) ?hd (cs := #[.slice A0_0 l0_0.length c0_0, .int .i64 a0_1]) (t := 24) ?hr ?_; (case hd => rfl); (case hg => rfl); (case hr => first | (go_simp; done) | (go_simp; rfl)); intro gb222 hg w7 hbox hb; have n0_ := Aside0.mk (below_step (by repeat (first | (with_reducible first | exact HB.out | apply below_alloc | apply pw_below_drewN | apply below_drew1) | exact HB.out)) hb); have n1_ := Aside0.mk (hbox); have n2_ := Aside0.mk ((by rw [hg]; exact (below_size (by repeat (first | (with_reducible first | exact HB.out | apply below_alloc | apply pw_below_drewN | apply below_drew1) | exact HB.out))) : w.heap.size ≤ gb222)); have n3_ := Aside0.mk ((by rw [hg]; exact (below_size (by repeat (first | (with_reducible first | exact HB.out | apply below_alloc | apply pw_below_drewN | apply below_drew1) | exact HB.out))) : w.heap.size ≤ gb222)); clear HB; have HB := n0_; have BK222 := n1_; have GW222 := n2_; have GE222 := n3_; clear n0_ n1_ n2_ n3_; clear hb hbox hg) | (go_at_call 8; (with_reducible refine (tidemilllaw05_shown.calls k  t223 _ A2.out).mono ?_); rintro e w8 ⟨rfl, hb⟩; have n0_ := Aside0.mk (blk_below (g := gb222) (o := .cells #[.slice A0_0 l0_0.length c0_0, .int .i64 a0_1] 24 (0, 0)) (by (with_reducible repeat (first | refine blk_drewN ?_ _ | refine blk_drew ?_ | refine blk_alloc ?_ _)); exact BK222.out) hb); have n1_ := Aside0.mk (below_step (by repeat (first | (with_reducible first | exact HB.out | apply below_alloc | apply pw_below_drewN | apply below_drew1 | refine below_set ?_ GE222.out) | exact HB.out)) hb); clear BK222; clear HB; have BK222 := n0_; have HB := n1_; clear n0_ n1_; (try clear hb); (try clear hb2); (try clear hk); (try clear hi); have hcz9_0 : w8.cell? ⟨gb222, 0, none⟩ = some (.slice A0_0 l0_0.length c0_0) := (blk_cell BK222.out 0).trans rfl; have hcz9_1 : w8.cell? ⟨gb222, 1, none⟩ = some (.int .i64 a0_1) := (blk_cell BK222.out 1).trans rfl; have hfz9_0 := blk_frozen BK222.out 0; have hfz9_1 := blk_frozen BK222.out 1) | (go_at_call 9; (with_reducible refine (tidemilllaw05_small.calls k _ _ l0_0 a0_1 true _ ?side1 ?side2 A3.out).mono ?_); (case side1 => repeat (first | exact (Kd.C_below HR0_0.out HB.out) | (with_reducible refine Kd.C_alloc ?_ _) | (with_reducible refine Kd.C_drewN ?_ _) | (with_reducible refine Kd.C_drew ?_))); (case side2 => exact HC0_0.out); rintro e w10 ⟨rfl, hb⟩; have n0_ := Aside0.mk (blk_below (g := gb222) (o := .cells #[.slice A0_0 l0_0.length c0_0, .int .i64 a0_1] 24 (0, 0)) (by (with_reducible repeat (first | refine blk_drewN ?_ _ | refine blk_drew ?_ | refine blk_alloc ?_ _)); exact BK222.out) hb); have n1_ := Aside0.mk (below_step (by repeat (first | (with_reducible first | exact HB.out | apply below_alloc | apply pw_below_drewN | apply below_drew1 | refine below_set ?_ GE222.out) | exact HB.out)) hb); clear BK222; clear HB; have BK222 := n0_; have HB := n1_; clear n0_ n1_; (try clear hb); (try clear hb2); (try clear hk); (try clear hi); have hcz11_0 : w10.cell? ⟨gb222, 0, none⟩ = some (.slice A0_0 l0_0.length c0_0) := (blk_cell BK222.out 0).trans rfl; have hcz11_1 : w10.cell? ⟨gb222, 1, none⟩ = some (.int .i64 a0_1) := (blk_cell BK222.out 1).trans rfl; have hfz11_0 := blk_frozen BK222.out 0; have hfz11_1 := blk_frozen BK222.out 1) | (go_at_call 10; (with_reducible refine (topo_Check.calls _ _ l0_0 a0_1 t225 t226 _ ?side1 ?side2 A5.out).mono ?_); (case side1 => repeat (first | exact (Kd.C_below HR0_0.out HB.out) | (with_reducible refine Kd.C_alloc ?_ _) | (with_reducible refine Kd.C_drewN ?_ _) | (with_reducible refine Kd.C_drew ?_))); (case side2 => exact HC0_0.out); rintro e w12 ⟨rfl, hb⟩; have n0_ := Aside0.mk (blk_below (g := gb222) (o := .cells #[.slice A0_0 l0_0.length c0_0, .int .i64 a0_1] 24 (0, 0)) (by (with_reducible repeat (first | refine blk_drewN ?_ _ | refine blk_drew ?_ | refine blk_alloc ?_ _)); exact BK222.out) hb); have n1_ := Aside0.mk (below_step (by repeat (first | (with_reducible first | exact HB.out | apply below_alloc | apply pw_below_drewN | apply below_drew1 | refine below_set ?_ GE222.out) | exact HB.out)) hb); clear BK222; clear HB; have BK222 := n0_; have HB := n1_; clear n0_ n1_; (try clear hb); (try clear hb2); (try clear hk); (try clear hi))); try go_wp2_with (first | ((with_reducible refine gate_dst (N := 1) rfl ?_); (try (refine gate_guard (by rfl) ?_; dsimp only)); refine box_event ?hg (N := 1) ?hd (cs := #[.slice A0_0 l0_0.length c0_0, .int .i64 a0_1]) (t := 24) ?hr ?_; (case hd => rfl); (case hg => rfl); (case hr => first | (go_simp; done) | (go_simp; rfl)); intro gb222 hg w7 hbox hb; have n0_ := Aside0.mk (below_step (by repeat (first | (with_reducible first | exact HB.out | apply below_alloc | apply pw_below_drewN | apply below_drew1) | exact HB.out)) hb); have n1_ := Aside0.mk (hbox); have n2_ := Aside0.mk ((by rw [hg]; exact (below_size (by repeat (first | (with_reducible first | exact HB.out | apply below_alloc | apply pw_below_drewN | apply below_drew1) | exact HB.out))) : w.heap.size ≤ gb222)); have n3_ := Aside0.mk ((by rw [hg]; exact (below_size (by repeat (first | (with_reducible first | exact HB.out | apply below_alloc | apply pw_below_drewN | apply below_drew1) | exact HB.out))) : w.heap.size ≤ gb222)); clear HB; have HB := n0_; have BK222 := n1_; have GW222 := n2_; have GE222 := n3_; clear n0_ n1_ n2_ n3_; clear hb hbox hg) | (go_at_call 8; (with_reducible refine (tidemilllaw05_shown.calls k  t223 _ A2.out).mono ?_); rintro e w8 ⟨rfl, hb⟩; have n0_ := Aside0.mk (blk_below (g := gb222) (o := .cells #[.slice A0_0 l0_0.length c0_0, .int .i64 a0_1] 24 (0, 0)) (by (with_reducible repeat (first | refine blk_drewN ?_ _ | refine blk_drew ?_ | refine blk_alloc ?_ _)); exact BK222.out) hb); have n1_ := Aside0.mk (below_step (by repeat (first | (with_reducible first | exact HB.out | apply below_alloc | apply pw_below_drewN | apply below_drew1 | refine below_set ?_ GE222.out) | exact HB.out)) hb); clear BK222; clear HB; have BK222 := n0_; have HB := n1_; clear n0_ n1_; (try clear hb); (try clear hb2); (try clear hk); (try clear hi); have hcz9_0 : w8.cell? ⟨gb222, 0, none⟩ = some (.slice A0_0 l0_0.length c0_0) := (blk_cell BK222.out 0).trans rfl; have hcz9_1 : w8.cell? ⟨gb222, 1, none⟩ = some (.int .i64 a0_1) := (blk_cell BK222.out 1).trans rfl; have hfz9_0 := blk_frozen BK222.out 0; have hfz9_1 := blk_frozen BK222.out 1) | (go_at_call 9; (with_reducible refine (tidemilllaw05_small.calls k _ _ l0_0 a0_1 true _ ?side1 ?side2 A3.out).mono ?_); (case side1 => repeat (first | exact (Kd.C_below HR0_0.out HB.out) | (with_reducible refine Kd.C_alloc ?_ _) | (with_reducible refine Kd.C_drewN ?_ _) | (with_reducible refine Kd.C_drew ?_))); (case side2 => exact HC0_0.out); rintro e w10 ⟨rfl, hb⟩; have n0_ := Aside0.mk (blk_below (g := gb222) (o := .cells #[.slice A0_0 l0_0.length c0_0, .int .i64 a0_1] 24 (0, 0)) (by (with_reducible repeat (first | refine blk_drewN ?_ _ | refine blk_drew ?_ | refine blk_alloc ?_ _)); exact BK222.out) hb); have n1_ := Aside0.mk (below_step (by repeat (first | (with_reducible first | exact HB.out | apply below_alloc | apply pw_below_drewN | apply below_drew1 | refine below_set ?_ GE222.out) | exact HB.out)) hb); clear BK222; clear HB; have BK222 := n0_; have HB := n1_; clear n0_ n1_; (try clear hb); (try clear hb2); (try clear hk); (try clear hi); have hcz11_0 : w10.cell? ⟨gb222, 0, none⟩ = some (.slice A0_0 l0_0.length c0_0) := (blk_cell BK222.out 0).trans rfl; have hcz11_1 : w10.cell? ⟨gb222, 1, none⟩ = some (.int .i64 a0_1) := (blk_cell BK222.out 1).trans rfl; have hfz11_0 := blk_frozen BK222.out 0; have hfz11_1 := blk_frozen BK222.out 1) | (go_at_call 10; (with_reducible refine (topo_Check.calls _ _ l0_0 a0_1 t225 t226 _ ?side1 ?side2 A5.out).mono ?_); (case side1 => repeat (first | exact (Kd.C_below HR0_0.out HB.out) | (with_reducible refine Kd.C_alloc ?_ _) | (with_reducible refine Kd.C_drewN ?_ _) | (with_reducible refine Kd.C_drew ?_))); (case side2 => exact HC0_0.out); rintro e w12 ⟨rfl, hb⟩; have n0_ := Aside0.mk (blk_below (g := gb222) (o := .cells #[.slice A0_0 l0_0.length c0_0, .int .i64 a0_1] 24 (0, 0)) (by (with_reducible repeat (first | refine blk_drewN ?_ _ | refine blk_drew ?_ | refine blk_alloc ?_ _)); exact BK222.out) hb); have n1_ := Aside0.mk (below_step (by repeat (first | (with_reducible first | exact HB.out | apply below_alloc | apply pw_below_drewN | apply below_drew1 | refine below_set ?_ GE222.out) | exact HB.out)) hb); clear BK222; clear HB; have BK222 := n0_; have HB := n1_; clear n0_ n1_; (try clear hb); (try clear hb2); (try clear hk); (try clear hi))))
      go_loopg [6] k (fun kq v6 w' => ∃ (x6_1 : Int), v6 = .int .i64 x6_1 ∧ Aside0 (tidemilllaw05_TopoRings.l0 kq t223 x6_1 l0_0 a0_1 = some r) ∧ Aside0 (kq ≤ k) ∧ Aside0 (w'.heap[gb222]? = some (.cells #[(.slice A0_0 l0_0.length c0_0), .int .i64 a0_1] 24 (0, 0))) ∧ Aside0 (Below w.heap.size w w'))
      case atStart => exact ⟨(0), (by first | rfl | (simp; done) | (simp [*]; done)), H', ⟨Nat.le_refl _⟩, ⟨by (with_reducible repeat (first | refine blk_drewN ?_ _ | refine blk_drew ?_ | refine blk_alloc ?_ _)); exact BK222.out⟩, ⟨by repeat (first | (with_reducible first | exact HB.out | apply below_alloc | apply pw_below_drewN | apply below_drew1 | refine below_set ?_ GE222.out) | exact HB.out)⟩⟩
      case round =>
        clear H'
        try clear p2
        try clear c4
        try clear c6
        try clear c6b0
        try clear c6b1
        try clear hcz11_0
        try clear hcz11_1
        try clear hcz9_0
        try clear hcz9_1
        try clear hfz11_0
        try clear hfz11_1
        try clear hfz9_0
        try clear hfz9_1
        obtain ⟨x6_1, rfl, HA, HK1, BK222, HB⟩ := hrel
        cases gk with
        | zero => exact absurd HA.out (by simp [tidemilllaw05_TopoRings.l0])
        | succ k1 =>
          have H := HA.out
          clear HA
          simp only [tidemilllaw05_TopoRings.l0] at H
          by_cases c13 : x6_1 < (l0_0.length : Int)
          · rw [if_pos c13] at H
            have c13b0 : decide (x6_1 < (l0_0.length : Int)) = true := decide_eq_true c13
            clear c13
            by_cases c14 : 0 ≤ x6_1
            · rw [if_pos c14] at H
              have c14b0 : decide (0 ≤ x6_1) = true := decide_eq_true c14
              clear c14
              replace H := Option.bind_eq_some_iff.mp H
              obtain ⟨t229, A150, H⟩ := H
              replace H : (if ((((rd_T40 l0_0 x6_1).f0) == 1) != ((((rd_T40 l0_0 x6_1).f1).length : Int) == 0)) = true then (tidemilllaw05_TopoRings.j1 k1 t223 x6_1 t229 true l0_0 a0_1) else (if ((rd_T40 l0_0 x6_1).f0) = 10 then (tidemilllaw05_TopoRings.j1 k1 t223 x6_1 t229 ((t229.length : Int) != 0) l0_0 a0_1) else (tidemilllaw05_TopoRings.j1 k1 t223 x6_1 t229 false l0_0 a0_1))) = some r := H
              have A15 := Aside0.mk A150
              clear A150
              have HC16 := Aside0.mk H
              clear H
              have hcz17_0 : wr.cell? ⟨gb222, 0, none⟩ = some (.slice A0_0 l0_0.length c0_0) := (blk_cell BK222.out 0).trans rfl
              have hcz17_1 : wr.cell? ⟨gb222, 1, none⟩ = some (.int .i64 a0_1) := (blk_cell BK222.out 1).trans rfl
              have hfz17_0 := blk_frozen BK222.out 0
              have hfz17_1 := blk_frozen BK222.out 1
              have p227 : 0 ≤ (x6_1 : Int) := of_decide_eq_true (by first | (with_reducible assumption) | assumption)
              have q227 : x6_1 < (l0_0.length : Int) := of_decide_eq_true (by first | (with_reducible assumption) | assumption)
              obtain ⟨ad227, A227_1, c227_1, A227_4, c227_4, e227, hx227_0, hx227_1, hx227_2, hx227_3, hx227_4, hx227_5, hl227_1, hi227_1, hl227_4, hi227_4⟩ := at_T40 HR0_0.out x6_1 p227 q227
              cases e227
              replace hx227_0 := (HB.out.cell (World.block_lt_of_cell? w _ hx227_0)).trans hx227_0
              replace hx227_1 := (HB.out.cell (World.block_lt_of_cell? w _ hx227_1)).trans hx227_1
              replace hx227_2 := (HB.out.cell (World.block_lt_of_cell? w _ hx227_2)).trans hx227_2
              replace hx227_3 := (HB.out.cell (World.block_lt_of_cell? w _ hx227_3)).trans hx227_3
              replace hx227_4 := (HB.out.cell (World.block_lt_of_cell? w _ hx227_4)).trans hx227_4
              replace hx227_5 := (HB.out.cell (World.block_lt_of_cell? w _ hx227_5)).trans hx227_5
              have HR227_1 := Aside0.mk hi227_1
              have HC227_1 := Aside0.mk hl227_1
              clear hi227_1 hl227_1
              have HR227_4 := Aside0.mk hi227_4
              have HC227_4 := Aside0.mk hl227_4
              clear hi227_4 hl227_4
              replace p227 := eq_true p227
              replace q227 := eq_true q227
              go_upto_region 12 with (first | ((with_reducible refine gate_dst (N := 7) rfl ?_); (try (refine gate_guard (by rfl) ?_; dsimp only)); refine box_event ?hg (N := 7) ?hd (cs := #[.int .i64 0, .slice none 0 0, .int .i64 0, .int .i64 0, .slice none 0 0, .int .i64 0]) (t := 40) ?hr ?_; (case hd => rfl); (case hg => rfl); (case hr => first | (go_simp; done) | (go_simp; rfl)); intro gb228 hg w18 hbox hb; have n0_ := Aside0.mk (blk_below (g := gb222) (o := .cells #[.slice (some ad227) l0_0.length c0_0, .int .i64 a0_1] 24 (0, 0)) (by (with_reducible repeat (first | refine blk_drewN ?_ _ | refine blk_drew ?_ | refine blk_alloc ?_ _)); exact BK222.out) hb); have n1_ := Aside0.mk (below_step (by repeat (first | (with_reducible first | exact HB.out | apply below_alloc | apply pw_below_drewN | apply below_drew1 | refine below_set ?_ GE222.out) | exact HB.out)) hb); have n2_ := Aside0.mk (hbox); have n3_ := Aside0.mk ((by rw [hg]; exact (below_size (by repeat (first | (with_reducible first | exact HB.out | apply below_alloc | apply pw_below_drewN | apply below_drew1 | refine below_set ?_ GE222.out) | exact HB.out))) : w.heap.size ≤ gb228)); have n4_ := Aside0.mk ((by rw [hg]; exact (below_size (by repeat (first | (with_reducible first | exact HB.out | apply below_alloc | apply pw_below_drewN | apply below_drew1 | refine below_set ?_ GE222.out) | exact HB.out))) : w.heap.size ≤ gb228)); have n5_ := Aside0.mk ((by rw [hg]; exact Nat.ne_of_lt (blk_lt (g := gb222) (o := .cells #[.slice (some ad227) l0_0.length c0_0, .int .i64 a0_1] 24 (0, 0)) (by (with_reducible repeat (first | refine blk_drewN ?_ _ | refine blk_drew ?_ | refine blk_alloc ?_ _)); exact BK222.out)) : gb222 ≠ gb228)); have n6_ := Aside0.mk ((by rw [hg]; exact Nat.ne_of_gt (blk_lt (g := gb222) (o := .cells #[.slice (some ad227) l0_0.length c0_0, .int .i64 a0_1] 24 (0, 0)) (by (with_reducible repeat (first | refine blk_drewN ?_ _ | refine blk_drew ?_ | refine blk_alloc ?_ _)); exact BK222.out)) : gb228 ≠ gb222)); clear BK222; clear HB; have BK222 := n0_; have HB := n1_; have BK228 := n2_; have GW228 := n3_; have GE228 := n4_; have NB222_228 := n5_; have NB228_222 := n6_; clear n0_ n1_ n2_ n3_ n4_ n5_ n6_; clear hb hbox hg; have hnb19 := NB228_222.out; have hnc19 := NB222_228.out; have hcz20_0 : w18.cell? ⟨gb228, 0, none⟩ = some (.int .i64 0) := (blk_cell BK228.out 0).trans rfl; have hcz20_1 : w18.cell? ⟨gb228, 1, none⟩ = some (.slice none 0 0) := (blk_cell BK228.out 1).trans rfl; have hcz20_2 : w18.cell? ⟨gb228, 2, none⟩ = some (.int .i64 0) := (blk_cell BK228.out 2).trans rfl; have hcz20_3 : w18.cell? ⟨gb228, 3, none⟩ = some (.int .i64 0) := (blk_cell BK228.out 3).trans rfl; have hcz20_4 : w18.cell? ⟨gb228, 4, none⟩ = some (.slice none 0 0) := (blk_cell BK228.out 4).trans rfl; have hcz20_5 : w18.cell? ⟨gb228, 5, none⟩ = some (.int .i64 0) := (blk_cell BK228.out 5).trans rfl; have hfz20_0 := blk_frozen BK228.out 0; have hfz20_1 := blk_frozen BK228.out 1; have hfz20_2 := blk_frozen BK228.out 2; have hfz20_3 := blk_frozen BK228.out 3; have hfz20_4 := blk_frozen BK228.out 4; have hfz20_5 := blk_frozen BK228.out 5; have hcz21_0 : w18.cell? ⟨gb222, 0, none⟩ = some (.slice (some ad227) l0_0.length c0_0) := (blk_cell BK222.out 0).trans rfl; have hcz21_1 : w18.cell? ⟨gb222, 1, none⟩ = some (.int .i64 a0_1) := (blk_cell BK222.out 1).trans rfl; have hfz21_0 := blk_frozen BK222.out 0; have hfz21_1 := blk_frozen BK222.out 1) | (go_at_call 13; (with_reducible refine (topo_Users.calls k1 _ _ l0_0 a0_1 x6_1 t229 _ ?side1 ?side2 A15.out).mono ?_); (case side1 => exact Kd.C_below HR0_0.out (by repeat (first | (with_reducible first | exact HB.out | apply below_alloc | apply pw_below_drewN | apply below_drew1 | refine below_set ?_ GE222.out | refine below_set ?_ GE228.out) | exact HB.out))); (case side2 => exact HC0_0.out); rintro e w22 ⟨v230, rfl, ho0, hb⟩; have n0_ := Aside0.mk (Kd.R_lower ho0 (below_size (by repeat (first | (with_reducible first | exact HB.out | apply below_alloc | apply pw_below_drewN | apply below_drew1 | refine below_set ?_ GE222.out | refine below_set ?_ GE228.out) | exact HB.out)))); have n1_ := Aside0.mk (blk_below (g := gb222) (o := .cells #[.slice (some ad227) l0_0.length c0_0, .int .i64 a0_1] 24 (0, 0)) (by (with_reducible repeat (first | refine blk_drewN ?_ _ | refine blk_drew ?_ | refine blk_alloc ?_ _)); refine blk_far ?_ NB222_228.out _; (with_reducible repeat (first | refine blk_drewN ?_ _ | refine blk_drew ?_ | refine blk_alloc ?_ _)); refine blk_far ?_ NB222_228.out _; (with_reducible repeat (first | refine blk_drewN ?_ _ | refine blk_drew ?_ | refine blk_alloc ?_ _)); refine blk_far ?_ NB222_228.out _; (with_reducible repeat (first | refine blk_drewN ?_ _ | refine blk_drew ?_ | refine blk_alloc ?_ _)); refine blk_far ?_ NB222_228.out _; (with_reducible repeat (first | refine blk_drewN ?_ _ | refine blk_drew ?_ | refine blk_alloc ?_ _)); refine blk_far ?_ NB222_228.out _; (with_reducible repeat (first | refine blk_drewN ?_ _ | refine blk_drew ?_ | refine blk_alloc ?_ _)); refine blk_far ?_ NB222_228.out _; (with_reducible repeat (first | refine blk_drewN ?_ _ | refine blk_drew ?_ | refine blk_alloc ?_ _)); exact BK222.out) hb); have n2_ := Aside0.mk (blk_below (g := gb228) (o := .cells #[.int .i64 ((rd_T40 l0_0 x6_1).f0), .slice A227_1 ((rd_T40 l0_0 x6_1).f1).length c227_1, .int .i64 ((rd_T40 l0_0 x6_1).f2.f0), .int .i64 ((rd_T40 l0_0 x6_1).f2.f1), .slice A227_4 ((rd_T40 l0_0 x6_1).f2.f2).length c227_4, .int .i64 ((rd_T40 l0_0 x6_1).f3)] 40 (0, 0)) (by (with_reducible repeat (first | refine blk_drewN ?_ _ | refine blk_drew ?_ | refine blk_alloc ?_ _)); refine blk_put (cs := #[.int .i64 ((rd_T40 l0_0 x6_1).f0), .slice A227_1 ((rd_T40 l0_0 x6_1).f1).length c227_1, .int .i64 ((rd_T40 l0_0 x6_1).f2.f0), .int .i64 ((rd_T40 l0_0 x6_1).f2.f1), .slice A227_4 ((rd_T40 l0_0 x6_1).f2.f2).length c227_4, .int .i64 0]) ?_ 5 _ rfl; (with_reducible repeat (first | refine blk_drewN ?_ _ | refine blk_drew ?_ | refine blk_alloc ?_ _)); refine blk_put (cs := #[.int .i64 ((rd_T40 l0_0 x6_1).f0), .slice A227_1 ((rd_T40 l0_0 x6_1).f1).length c227_1, .int .i64 ((rd_T40 l0_0 x6_1).f2.f0), .int .i64 ((rd_T40 l0_0 x6_1).f2.f1), .slice none 0 0, .int .i64 0]) ?_ 4 _ rfl; (with_reducible repeat (first | refine blk_drewN ?_ _ | refine blk_drew ?_ | refine blk_alloc ?_ _)); refine blk_put (cs := #[.int .i64 ((rd_T40 l0_0 x6_1).f0), .slice A227_1 ((rd_T40 l0_0 x6_1).f1).length c227_1, .int .i64 ((rd_T40 l0_0 x6_1).f2.f0), .int .i64 0, .slice none 0 0, .int .i64 0]) ?_ 3 _ rfl; (with_reducible repeat (first | refine blk_drewN ?_ _ | refine blk_drew ?_ | refine blk_alloc ?_ _)); refine blk_put (cs := #[.int .i64 ((rd_T40 l0_0 x6_1).f0), .slice A227_1 ((rd_T40 l0_0 x6_1).f1).length c227_1, .int .i64 0, .int .i64 0, .slice none 0 0, .int .i64 0]) ?_ 2 _ rfl; (with_reducible repeat (first | refine blk_drewN ?_ _ | refine blk_drew ?_ | refine blk_alloc ?_ _)); refine blk_put (cs := #[.int .i64 ((rd_T40 l0_0 x6_1).f0), .slice none 0 0, .int .i64 0, .int .i64 0, .slice none 0 0, .int .i64 0]) ?_ 1 _ rfl; (with_reducible repeat (first | refine blk_drewN ?_ _ | refine blk_drew ?_ | refine blk_alloc ?_ _)); refine blk_put (cs := #[.int .i64 0, .slice none 0 0, .int .i64 0, .int .i64 0, .slice none 0 0, .int .i64 0]) ?_ 0 _ rfl; (with_reducible repeat (first | refine blk_drewN ?_ _ | refine blk_drew ?_ | refine blk_alloc ?_ _)); exact BK228.out) hb); have n3_ := Aside0.mk (below_step (by repeat (first | (with_reducible first | exact HB.out | apply below_alloc | apply pw_below_drewN | apply below_drew1 | refine below_set ?_ GE222.out | refine below_set ?_ GE228.out) | exact HB.out)) hb); clear BK222; clear BK228; clear HB; have HO231 := n0_; have BK222 := n1_; have BK228 := n2_; have HB := n3_; clear n0_ n1_ n2_ n3_; (try clear hb); (try clear hb2); (try clear hk); (try clear hi); (try clear ho0)))
              repeat (go_quiet (first | ((with_reducible refine gate_dst (N := 7) rfl ?_); (try (refine gate_guard (by rfl) ?_; dsimp only)); refine box_event ?hg (N := 7) ?hd (cs := #[.int .i64 0, .slice none 0 0, .int .i64 0, .int .i64 0, .slice none 0 0, .int .i64 0]) (t := 40) ?hr ?_; (case hd => rfl); (case hg => rfl); (case hr => first | (go_simp; done) | (go_simp; rfl)); intro gb228 hg w18 hbox hb; have n0_ := Aside0.mk (blk_below (g := gb222) (o := .cells #[.slice (some ad227) l0_0.length c0_0, .int .i64 a0_1] 24 (0, 0)) (by (with_reducible repeat (first | refine blk_drewN ?_ _ | refine blk_drew ?_ | refine blk_alloc ?_ _)); exact BK222.out) hb); have n1_ := Aside0.mk (below_step (by repeat (first | (with_reducible first | exact HB.out | apply below_alloc | apply pw_below_drewN | apply below_drew1 | refine below_set ?_ GE222.out) | exact HB.out)) hb); have n2_ := Aside0.mk (hbox); have n3_ := Aside0.mk ((by rw [hg]; exact (below_size (by repeat (first | (with_reducible first | exact HB.out | apply below_alloc | apply pw_below_drewN | apply below_drew1 | refine below_set ?_ GE222.out) | exact HB.out))) : w.heap.size ≤ gb228)); have n4_ := Aside0.mk ((by rw [hg]; exact (below_size (by repeat (first | (with_reducible first | exact HB.out | apply below_alloc | apply pw_below_drewN | apply below_drew1 | refine below_set ?_ GE222.out) | exact HB.out))) : w.heap.size ≤ gb228)); have n5_ := Aside0.mk ((by rw [hg]; exact Nat.ne_of_lt (blk_lt (g := gb222) (o := .cells #[.slice (some ad227) l0_0.length c0_0, .int .i64 a0_1] 24 (0, 0)) (by (with_reducible repeat (first | refine blk_drewN ?_ _ | refine blk_drew ?_ | refine blk_alloc ?_ _)); exact BK222.out)) : gb222 ≠ gb228)); have n6_ := Aside0.mk ((by rw [hg]; exact Nat.ne_of_gt (blk_lt (g := gb222) (o := .cells #[.slice (some ad227) l0_0.length c0_0, .int .i64 a0_1] 24 (0, 0)) (by (with_reducible repeat (first | refine blk_drewN ?_ _ | refine blk_drew ?_ | refine blk_alloc ?_ _)); exact BK222.out)) : gb228 ≠ gb222)); clear BK222; clear HB; have BK222 := n0_; have HB := n1_; have BK228 := n2_; have GW228 := n3_; have GE228 := n4_; have NB222_228 := n5_; have NB228_222 := n6_; clear n0_ n1_ n2_ n3_ n4_ n5_ n6_; clear hb hbox hg; have hnb19 := NB228_222.out; have hnc19 := NB222_228.out; have hcz20_0 : w18.cell? ⟨gb228, 0, none⟩ = some (.int .i64 0) := (blk_cell BK228.out 0).trans rfl; have hcz20_1 : w18.cell? ⟨gb228, 1, none⟩ = some (.slice none 0 0) := (blk_cell BK228.out 1).trans rfl; have hcz20_2 : w18.cell? ⟨gb228, 2, none⟩ = some (.int .i64 0) := (blk_cell BK228.out 2).trans rfl; have hcz20_3 : w18.cell? ⟨gb228, 3, none⟩ = some (.int .i64 0) := (blk_cell BK228.out 3).trans rfl; have hcz20_4 : w18.cell? ⟨gb228, 4, none⟩ = some (.slice none 0 0) := (blk_cell BK228.out 4).trans rfl; have hcz20_5 : w18.cell? ⟨gb228, 5, none⟩ = some (.int .i64 0) := (blk_cell BK228.out 5).trans rfl; have hfz20_0 := blk_frozen BK228.out 0; have hfz20_1 := blk_frozen BK228.out 1; have hfz20_2 := blk_frozen BK228.out 2; have hfz20_3 := blk_frozen BK228.out 3; have hfz20_4 := blk_frozen BK228.out 4; have hfz20_5 := blk_frozen BK228.out 5; have hcz21_0 : w18.cell? ⟨gb222, 0, none⟩ = some (.slice (some ad227) l0_0.length c0_0) := (blk_cell BK222.out 0).trans rfl; have hcz21_1 : w18.cell? ⟨gb222, 1, none⟩ = some (.int .i64 a0_1) := (blk_cell BK222.out 1).trans rfl; have hfz21_0 := blk_frozen BK222.out 0; have hfz21_1 := blk_frozen BK222.out 1) | (go_at_call 13; (with_reducible refine (topo_Users.calls k1 _ _ l0_0 a0_1 x6_1 t229 _ ?side1 ?side2 A15.out).mono ?_); (case side1 => exact Kd.C_below HR0_0.out (by repeat (first | (with_reducible first | exact HB.out | apply below_alloc | apply pw_below_drewN | apply below_drew1 | refine below_set ?_ GE222.out | refine below_set ?_ GE228.out) | exact HB.out))); (case side2 => exact HC0_0.out); rintro e w22 ⟨v230, rfl, ho0, hb⟩; have n0_ := Aside0.mk (Kd.R_lower ho0 (below_size (by repeat (first | (with_reducible first | exact HB.out | apply below_alloc | apply pw_below_drewN | apply below_drew1 | refine below_set ?_ GE222.out | refine below_set ?_ GE228.out) | exact HB.out)))); have n1_ := Aside0.mk (blk_below (g := gb222) (o := .cells #[.slice (some ad227) l0_0.length c0_0, .int .i64 a0_1] 24 (0, 0)) (by (with_reducible repeat (first | refine blk_drewN ?_ _ | refine blk_drew ?_ | refine blk_alloc ?_ _)); refine blk_far ?_ NB222_228.out _; (with_reducible repeat (first | refine blk_drewN ?_ _ | refine blk_drew ?_ | refine blk_alloc ?_ _)); refine blk_far ?_ NB222_228.out _; (with_reducible repeat (first | refine blk_drewN ?_ _ | refine blk_drew ?_ | refine blk_alloc ?_ _)); refine blk_far ?_ NB222_228.out _; (with_reducible repeat (first | refine blk_drewN ?_ _ | refine blk_drew ?_ | refine blk_alloc ?_ _)); refine blk_far ?_ NB222_228.out _; (with_reducible repeat (first | refine blk_drewN ?_ _ | refine blk_drew ?_ | refine blk_alloc ?_ _)); refine blk_far ?_ NB222_228.out _; (with_reducible repeat (first | refine blk_drewN ?_ _ | refine blk_drew ?_ | refine blk_alloc ?_ _)); refine blk_far ?_ NB222_228.out _; (with_reducible repeat (first | refine blk_drewN ?_ _ | refine blk_drew ?_ | refine blk_alloc ?_ _)); exact BK222.out) hb); have n2_ := Aside0.mk (blk_below (g := gb228) (o := .cells #[.int .i64 ((rd_T40 l0_0 x6_1).f0), .slice A227_1 ((rd_T40 l0_0 x6_1).f1).length c227_1, .int .i64 ((rd_T40 l0_0 x6_1).f2.f0), .int .i64 ((rd_T40 l0_0 x6_1).f2.f1), .slice A227_4 ((rd_T40 l0_0 x6_1).f2.f2).length c227_4, .int .i64 ((rd_T40 l0_0 x6_1).f3)] 40 (0, 0)) (by (with_reducible repeat (first | refine blk_drewN ?_ _ | refine blk_drew ?_ | refine blk_alloc ?_ _)); refine blk_put (cs := #[.int .i64 ((rd_T40 l0_0 x6_1).f0), .slice A227_1 ((rd_T40 l0_0 x6_1).f1).length c227_1, .int .i64 ((rd_T40 l0_0 x6_1).f2.f0), .int .i64 ((rd_T40 l0_0 x6_1).f2.f1), .slice A227_4 ((rd_T40 l0_0 x6_1).f2.f2).length c227_4, .int .i64 0]) ?_ 5 _ rfl; (with_reducible repeat (first | refine blk_drewN ?_ _ | refine blk_drew ?_ | refine blk_alloc ?_ _)); refine blk_put (cs := #[.int .i64 ((rd_T40 l0_0 x6_1).f0), .slice A227_1 ((rd_T40 l0_0 x6_1).f1).length c227_1, .int .i64 ((rd_T40 l0_0 x6_1).f2.f0), .int .i64 ((rd_T40 l0_0 x6_1).f2.f1), .slice none 0 0, .int .i64 0]) ?_ 4 _ rfl; (with_reducible repeat (first | refine blk_drewN ?_ _ | refine blk_drew ?_ | refine blk_alloc ?_ _)); refine blk_put (cs := #[.int .i64 ((rd_T40 l0_0 x6_1).f0), .slice A227_1 ((rd_T40 l0_0 x6_1).f1).length c227_1, .int .i64 ((rd_T40 l0_0 x6_1).f2.f0), .int .i64 0, .slice none 0 0, .int .i64 0]) ?_ 3 _ rfl; (with_reducible repeat (first | refine blk_drewN ?_ _ | refine blk_drew ?_ | refine blk_alloc ?_ _)); refine blk_put (cs := #[.int .i64 ((rd_T40 l0_0 x6_1).f0), .slice A227_1 ((rd_T40 l0_0 x6_1).f1).length c227_1, .int .i64 0, .int .i64 0, .slice none 0 0, .int .i64 0]) ?_ 2 _ rfl; (with_reducible repeat (first | refine blk_drewN ?_ _ | refine blk_drew ?_ | refine blk_alloc ?_ _)); refine blk_put (cs := #[.int .i64 ((rd_T40 l0_0 x6_1).f0), .slice none 0 0, .int .i64 0, .int .i64 0, .slice none 0 0, .int .i64 0]) ?_ 1 _ rfl; (with_reducible repeat (first | refine blk_drewN ?_ _ | refine blk_drew ?_ | refine blk_alloc ?_ _)); refine blk_put (cs := #[.int .i64 0, .slice none 0 0, .int .i64 0, .int .i64 0, .slice none 0 0, .int .i64 0]) ?_ 0 _ rfl; (with_reducible repeat (first | refine blk_drewN ?_ _ | refine blk_drew ?_ | refine blk_alloc ?_ _)); exact BK228.out) hb); have n3_ := Aside0.mk (below_step (by repeat (first | (with_reducible first | exact HB.out | apply below_alloc | apply pw_below_drewN | apply below_drew1 | refine below_set ?_ GE222.out | refine below_set ?_ GE228.out) | exact HB.out)) hb); clear BK222; clear BK228; clear HB; have HO231 := n0_; have BK222 := n1_; have BK228 := n2_; have HB := n3_; clear n0_ n1_ n2_ n3_; (try clear hb); (try clear hb2); (try clear hk); (try clear hi); (try clear ho0))); go_upto_region 12 with (first | ((with_reducible refine gate_dst (N := 7) rfl ?_); (try (refine gate_guard (by rfl) ?_; dsimp only)); refine box_event ?hg (N := 7) ?hd (cs := #[.int .i64 0, .slice none 0 0, .int .i64 0, .int .i64 0, .slice none 0 0, .int .i64 0]) (t := 40) ?hr ?_; (case hd => rfl); (case hg => rfl); (case hr => first | (go_simp; done) | (go_simp; rfl)); intro gb228 hg w18 hbox hb; have n0_ := Aside0.mk (blk_below (g := gb222) (o := .cells #[.slice (some ad227) l0_0.length c0_0, .int .i64 a0_1] 24 (0, 0)) (by (with_reducible repeat (first | refine blk_drewN ?_ _ | refine blk_drew ?_ | refine blk_alloc ?_ _)); exact BK222.out) hb); have n1_ := Aside0.mk (below_step (by repeat (first | (with_reducible first | exact HB.out | apply below_alloc | apply pw_below_drewN | apply below_drew1 | refine below_set ?_ GE222.out) | exact HB.out)) hb); have n2_ := Aside0.mk (hbox); have n3_ := Aside0.mk ((by rw [hg]; exact (below_size (by repeat (first | (with_reducible first | exact HB.out | apply below_alloc | apply pw_below_drewN | apply below_drew1 | refine below_set ?_ GE222.out) | exact HB.out))) : w.heap.size ≤ gb228)); have n4_ := Aside0.mk ((by rw [hg]; exact (below_size (by repeat (first | (with_reducible first | exact HB.out | apply below_alloc | apply pw_below_drewN | apply below_drew1 | refine below_set ?_ GE222.out) | exact HB.out))) : w.heap.size ≤ gb228)); have n5_ := Aside0.mk ((by rw [hg]; exact Nat.ne_of_lt (blk_lt (g := gb222) (o := .cells #[.slice (some ad227) l0_0.length c0_0, .int .i64 a0_1] 24 (0, 0)) (by (with_reducible repeat (first | refine blk_drewN ?_ _ | refine blk_drew ?_ | refine blk_alloc ?_ _)); exact BK222.out)) : gb222 ≠ gb228)); have n6_ := Aside0.mk ((by rw [hg]; exact Nat.ne_of_gt (blk_lt (g := gb222) (o := .cells #[.slice (some ad227) l0_0.length c0_0, .int .i64 a0_1] 24 (0, 0)) (by (with_reducible repeat (first | refine blk_drewN ?_ _ | refine blk_drew ?_ | refine blk_alloc ?_ _)); exact BK222.out)) : gb228 ≠ gb222)); clear BK222; clear HB; have BK222 := n0_; have HB := n1_; have BK228 := n2_; have GW228 := n3_; have GE228 := n4_; have NB222_228 := n5_; have NB228_222 := n6_; clear n0_ n1_ n2_ n3_ n4_ n5_ n6_; clear hb hbox hg; have hnb19 := NB228_222.out; have hnc19 := NB222_228.out; have hcz20_0 : w18.cell? ⟨gb228, 0, none⟩ = some (.int .i64 0) := (blk_cell BK228.out 0).trans rfl; have hcz20_1 : w18.cell? ⟨gb228, 1, none⟩ = some (.slice none 0 0) := (blk_cell BK228.out 1).trans rfl; have hcz20_2 : w18.cell? ⟨gb228, 2, none⟩ = some (.int .i64 0) := (blk_cell BK228.out 2).trans rfl; have hcz20_3 : w18.cell? ⟨gb228, 3, none⟩ = some (.int .i64 0) := (blk_cell BK228.out 3).trans rfl; have hcz20_4 : w18.cell? ⟨gb228, 4, none⟩ = some (.slice none 0 0) := (blk_cell BK228.out 4).trans rfl; have hcz20_5 : w18.cell? ⟨gb228, 5, none⟩ = some (.int .i64 0) := (blk_cell BK228.out 5).trans rfl; have hfz20_0 := blk_frozen BK228.out 0; have hfz20_1 := blk_frozen BK228.out 1; have hfz20_2 := blk_frozen BK228.out 2; have hfz20_3 := blk_frozen BK228.out 3; have hfz20_4 := blk_frozen BK228.out 4; have hfz20_5 := blk_frozen BK228.out 5; have hcz21_0 : w18.cell? ⟨gb222, 0, none⟩ = some (.slice (some ad227) l0_0.length c0_0) := (blk_cell BK222.out 0).trans rfl; have hcz21_1 : w18.cell? ⟨gb222, 1, none⟩ = some (.int .i64 a0_1) := (blk_cell BK222.out 1).trans rfl; have hfz21_0 := blk_frozen BK222.out 0; have hfz21_1 := blk_frozen BK222.out 1) | (go_at_call 13; (with_reducible refine (topo_Users.calls k1 _ _ l0_0 a0_1 x6_1 t229 _ ?side1 ?side2 A15.out).mono ?_); (case side1 => exact Kd.C_below HR0_0.out (by repeat (first | (with_reducible first | exact HB.out | apply below_alloc | apply pw_below_drewN | apply below_drew1 | refine below_set ?_ GE222.out | refine below_set ?_ GE228.out) | exact HB.out))); (case side2 => exact HC0_0.out); rintro e w22 ⟨v230, rfl, ho0, hb⟩; have n0_ := Aside0.mk (Kd.R_lower ho0 (below_size (by repeat (first | (with_reducible first | exact HB.out | apply below_alloc | apply pw_below_drewN | apply below_drew1 | refine below_set ?_ GE222.out | refine below_set ?_ GE228.out) | exact HB.out)))); have n1_ := Aside0.mk (blk_below (g := gb222) (o := .cells #[.slice (some ad227) l0_0.length c0_0, .int .i64 a0_1] 24 (0, 0)) (by (with_reducible repeat (first | refine blk_drewN ?_ _ | refine blk_drew ?_ | refine blk_alloc ?_ _)); refine blk_far ?_ NB222_228.out _; (with_reducible repeat (first | refine blk_drewN ?_ _ | refine blk_drew ?_ | refine blk_alloc ?_ _)); refine blk_far ?_ NB222_228.out _; (with_reducible repeat (first | refine blk_drewN ?_ _ | refine blk_drew ?_ | refine blk_alloc ?_ _)); refine blk_far ?_ NB222_228.out _; (with_reducible repeat (first | refine blk_drewN ?_ _ | refine blk_drew ?_ | refine blk_alloc ?_ _)); refine blk_far ?_ NB222_228.out _; (with_reducible repeat (first | refine blk_drewN ?_ _ | refine blk_drew ?_ | refine blk_alloc ?_ _)); refine blk_far ?_ NB222_228.out _; (with_reducible repeat (first | refine blk_drewN ?_ _ | refine blk_drew ?_ | refine blk_alloc ?_ _)); refine blk_far ?_ NB222_228.out _; (with_reducible repeat (first | refine blk_drewN ?_ _ | refine blk_drew ?_ | refine blk_alloc ?_ _)); exact BK222.out) hb); have n2_ := Aside0.mk (blk_below (g := gb228) (o := .cells #[.int .i64 ((rd_T40 l0_0 x6_1).f0), .slice A227_1 ((rd_T40 l0_0 x6_1).f1).length c227_1, .int .i64 ((rd_T40 l0_0 x6_1).f2.f0), .int .i64 ((rd_T40 l0_0 x6_1).f2.f1), .slice A227_4 ((rd_T40 l0_0 x6_1).f2.f2).length c227_4, .int .i64 ((rd_T40 l0_0 x6_1).f3)] 40 (0, 0)) (by (with_reducible repeat (first | refine blk_drewN ?_ _ | refine blk_drew ?_ | refine blk_alloc ?_ _)); refine blk_put (cs := #[.int .i64 ((rd_T40 l0_0 x6_1).f0), .slice A227_1 ((rd_T40 l0_0 x6_1).f1).length c227_1, .int .i64 ((rd_T40 l0_0 x6_1).f2.f0), .int .i64 ((rd_T40 l0_0 x6_1).f2.f1), .slice A227_4 ((rd_T40 l0_0 x6_1).f2.f2).length c227_4, .int .i64 0]) ?_ 5 _ rfl; (with_reducible repeat (first | refine blk_drewN ?_ _ | refine blk_drew ?_ | refine blk_alloc ?_ _)); refine blk_put (cs := #[.int .i64 ((rd_T40 l0_0 x6_1).f0), .slice A227_1 ((rd_T40 l0_0 x6_1).f1).length c227_1, .int .i64 ((rd_T40 l0_0 x6_1).f2.f0), .int .i64 ((rd_T40 l0_0 x6_1).f2.f1), .slice none 0 0, .int .i64 0]) ?_ 4 _ rfl; (with_reducible repeat (first | refine blk_drewN ?_ _ | refine blk_drew ?_ | refine blk_alloc ?_ _)); refine blk_put (cs := #[.int .i64 ((rd_T40 l0_0 x6_1).f0), .slice A227_1 ((rd_T40 l0_0 x6_1).f1).length c227_1, .int .i64 ((rd_T40 l0_0 x6_1).f2.f0), .int .i64 0, .slice none 0 0, .int .i64 0]) ?_ 3 _ rfl; (with_reducible repeat (first | refine blk_drewN ?_ _ | refine blk_drew ?_ | refine blk_alloc ?_ _)); refine blk_put (cs := #[.int .i64 ((rd_T40 l0_0 x6_1).f0), .slice A227_1 ((rd_T40 l0_0 x6_1).f1).length c227_1, .int .i64 0, .int .i64 0, .slice none 0 0, .int .i64 0]) ?_ 2 _ rfl; (with_reducible repeat (first | refine blk_drewN ?_ _ | refine blk_drew ?_ | refine blk_alloc ?_ _)); refine blk_put (cs := #[.int .i64 ((rd_T40 l0_0 x6_1).f0), .slice none 0 0, .int .i64 0, .int .i64 0, .slice none 0 0, .int .i64 0]) ?_ 1 _ rfl; (with_reducible repeat (first | refine blk_drewN ?_ _ | refine blk_drew ?_ | refine blk_alloc ?_ _)); refine blk_put (cs := #[.int .i64 0, .slice none 0 0, .int .i64 0, .int .i64 0, .slice none 0 0, .int .i64 0]) ?_ 0 _ rfl; (with_reducible repeat (first | refine blk_drewN ?_ _ | refine blk_drew ?_ | refine blk_alloc ?_ _)); exact BK228.out) hb); have n3_ := Aside0.mk (below_step (by repeat (first | (with_reducible first | exact HB.out | apply below_alloc | apply pw_below_drewN | apply below_drew1 | refine below_set ?_ GE222.out | refine below_set ?_ GE228.out) | exact HB.out)) hb); clear BK222; clear BK228; clear HB; have HO231 := n0_; have BK222 := n1_; have BK228 := n2_; have HB := n3_; clear n0_ n1_ n2_ n3_; (try clear hb); (try clear hb2); (try clear hk); (try clear hi); (try clear ho0))))
              (try simp only [Act.put, List.setIfInBounds_toArray, List.set_cons_zero, List.set_cons_succ])
              go_cut [57] (fun v57 wc => ∃ (kq : Nat) (x57_15 : Bool), v57 = .bool x57_15 ∧ Aside0 (tidemilllaw05_TopoRings.j1 kq t223 x6_1 t229 x57_15 l0_0 a0_1 = some r) ∧ Aside0 (kq ≤ k1) ∧ Aside0 (Kd.R (Kd.int .i64) 3 wc w.heap.size (fun _ => True) v230 t229) ∧ Aside0 (wc.heap[gb222]? = some (.cells #[(.slice (some ad227) l0_0.length c0_0), .int .i64 a0_1] 24 (0, 0))) ∧ Aside0 (wc.heap[gb228]? = some (.cells #[.int .i64 ((rd_T40 l0_0 x6_1).f0), (.slice A227_1 ((rd_T40 l0_0 x6_1).f1).length c227_1), .int .i64 ((rd_T40 l0_0 x6_1).f2.f0), .int .i64 ((rd_T40 l0_0 x6_1).f2.f1), (.slice A227_4 ((rd_T40 l0_0 x6_1).f2.f2).length c227_4), .int .i64 ((rd_T40 l0_0 x6_1).f3)] 40 (0, 0))) ∧ Aside0 (Below w.heap.size w wc))
              case first =>
                have H := HC16.out
                clear HC16
                by_cases c23 : ((((rd_T40 l0_0 x6_1).f0) == 1) != ((((rd_T40 l0_0 x6_1).f1).length : Int) == 0)) = true
                · rw [if_pos c23] at H
                  have c23b0 : ((((rd_T40 l0_0 x6_1).f0) == 1) != ((((rd_T40 l0_0 x6_1).f1).length : Int) == 0)) = true := c23
                  (try (have c23b1 : decide ((((rd_T40 l0_0 x6_1).f0) == 1) = ((((rd_T40 l0_0 x6_1).f1).length : Int) == 0)) = false := by simpa using c23))
                  (try (have c23b2 : ((((rd_T40 l0_0 x6_1).f0) == 1) == ((((rd_T40 l0_0 x6_1).f1).length : Int) == 0)) = false := by simpa using c23))
                  (try (have c23b3 : ¬ ((((rd_T40 l0_0 x6_1).f0) == 1) = ((((rd_T40 l0_0 x6_1).f1).length : Int) == 0)) := by simpa using c23))
                  clear c23
                  (first | rw [c23b0] | (simp only [i64_w, i32_w]; rw [c23b0]) | skip)
                  have H' := Aside0.mk H
                  clear H
                  have hnb24 := NB228_222.out
                  have hnc24 := NB222_228.out
                  have hcz25_0 : w22.cell? ⟨gb228, 0, none⟩ = some (.int .i64 ((rd_T40 l0_0 x6_1).f0)) := (blk_cell BK228.out 0).trans rfl
                  have hcz25_1 : w22.cell? ⟨gb228, 1, none⟩ = some (.slice A227_1 ((rd_T40 l0_0 x6_1).f1).length c227_1) := (blk_cell BK228.out 1).trans rfl
                  have hcz25_2 : w22.cell? ⟨gb228, 2, none⟩ = some (.int .i64 ((rd_T40 l0_0 x6_1).f2.f0)) := (blk_cell BK228.out 2).trans rfl
                  have hcz25_3 : w22.cell? ⟨gb228, 3, none⟩ = some (.int .i64 ((rd_T40 l0_0 x6_1).f2.f1)) := (blk_cell BK228.out 3).trans rfl
                  have hcz25_4 : w22.cell? ⟨gb228, 4, none⟩ = some (.slice A227_4 ((rd_T40 l0_0 x6_1).f2.f2).length c227_4) := (blk_cell BK228.out 4).trans rfl
                  have hcz25_5 : w22.cell? ⟨gb228, 5, none⟩ = some (.int .i64 ((rd_T40 l0_0 x6_1).f3)) := (blk_cell BK228.out 5).trans rfl
                  have hfz25_0 := blk_frozen BK228.out 0
                  have hfz25_1 := blk_frozen BK228.out 1
                  have hfz25_2 := blk_frozen BK228.out 2
                  have hfz25_3 := blk_frozen BK228.out 3
                  have hfz25_4 := blk_frozen BK228.out 4
                  have hfz25_5 := blk_frozen BK228.out 5
                  go_wp2
                  repeat (go_quiet (fail); try go_wp2)
                  go_meet
                  case rel => exact ⟨_, (true), (by first | rfl | (simp; done) | (simp [*]; done)), H', ⟨by have := HK1.out; first | omega | exact Nat.le_refl _⟩, ⟨by (with_reducible repeat (first | apply Kd.R_alloc | apply Kd.R_drewN | apply Kd.R_drew)); exact HO231.out⟩, ⟨by (with_reducible repeat (first | refine blk_drewN ?_ _ | refine blk_drew ?_ | refine blk_alloc ?_ _)); exact BK222.out⟩, ⟨by (with_reducible repeat (first | refine blk_drewN ?_ _ | refine blk_drew ?_ | refine blk_alloc ?_ _)); exact BK228.out⟩, ⟨by repeat (first | (with_reducible first | exact HB.out | apply below_alloc | apply pw_below_drewN | apply below_drew1 | refine below_set ?_ GE222.out | refine below_set ?_ GE228.out) | exact HB.out)⟩⟩
                · rw [if_neg c23] at H
                  have c23b0 : ((((rd_T40 l0_0 x6_1).f0) == 1) != ((((rd_T40 l0_0 x6_1).f1).length : Int) == 0)) = false := by simpa using c23
                  (try (have c23b1 : decide ((((rd_T40 l0_0 x6_1).f0) == 1) = ((((rd_T40 l0_0 x6_1).f1).length : Int) == 0)) = true := by simpa using c23))
                  (try (have c23b2 : ((((rd_T40 l0_0 x6_1).f0) == 1) == ((((rd_T40 l0_0 x6_1).f1).length : Int) == 0)) = true := by simpa using c23))
                  clear c23
                  (first | rw [c23b0] | (simp only [i64_w, i32_w]; rw [c23b0]) | skip)
                  by_cases c26 : ((rd_T40 l0_0 x6_1).f0) = 10
                  · rw [if_pos c26] at H
                    have c26b0 : (((rd_T40 l0_0 x6_1).f0) == 10) = true := beq_iff_eq.mpr c26
                    have c26b1 : (((rd_T40 l0_0 x6_1).f0) != 10) = false := bne_eq_false_iff_eq.mpr c26
                    clear c26
                    have H' := Aside0.mk H
                    clear H
                    have hnb27 := NB228_222.out
                    have hnc27 := NB222_228.out
                    have hcz28_0 : w22.cell? ⟨gb228, 0, none⟩ = some (.int .i64 ((rd_T40 l0_0 x6_1).f0)) := (blk_cell BK228.out 0).trans rfl
                    have hcz28_1 : w22.cell? ⟨gb228, 1, none⟩ = some (.slice A227_1 ((rd_T40 l0_0 x6_1).f1).length c227_1) := (blk_cell BK228.out 1).trans rfl
                    have hcz28_2 : w22.cell? ⟨gb228, 2, none⟩ = some (.int .i64 ((rd_T40 l0_0 x6_1).f2.f0)) := (blk_cell BK228.out 2).trans rfl
                    have hcz28_3 : w22.cell? ⟨gb228, 3, none⟩ = some (.int .i64 ((rd_T40 l0_0 x6_1).f2.f1)) := (blk_cell BK228.out 3).trans rfl
                    have hcz28_4 : w22.cell? ⟨gb228, 4, none⟩ = some (.slice A227_4 ((rd_T40 l0_0 x6_1).f2.f2).length c227_4) := (blk_cell BK228.out 4).trans rfl
                    have hcz28_5 : w22.cell? ⟨gb228, 5, none⟩ = some (.int .i64 ((rd_T40 l0_0 x6_1).f3)) := (blk_cell BK228.out 5).trans rfl
                    have hfz28_0 := blk_frozen BK228.out 0
                    have hfz28_1 := blk_frozen BK228.out 1
                    have hfz28_2 := blk_frozen BK228.out 2
                    have hfz28_3 := blk_frozen BK228.out 3
                    have hfz28_4 := blk_frozen BK228.out 4
                    have hfz28_5 := blk_frozen BK228.out 5
                    obtain ⟨Ao29, co29, eo29⟩ := Kd.R_slice HO231.out
                    subst eo29
                    go_wp2
                    repeat (go_quiet (fail); try go_wp2)
                    go_meet
                    case rel => exact ⟨_, (((t229.length : Int) != 0)), (by first | rfl | (simp; done) | (simp [*]; done)), H', ⟨by have := HK1.out; first | omega | exact Nat.le_refl _⟩, ⟨by (with_reducible repeat (first | apply Kd.R_alloc | apply Kd.R_drewN | apply Kd.R_drew)); exact HO231.out⟩, ⟨by (with_reducible repeat (first | refine blk_drewN ?_ _ | refine blk_drew ?_ | refine blk_alloc ?_ _)); exact BK222.out⟩, ⟨by (with_reducible repeat (first | refine blk_drewN ?_ _ | refine blk_drew ?_ | refine blk_alloc ?_ _)); exact BK228.out⟩, ⟨by repeat (first | (with_reducible first | exact HB.out | apply below_alloc | apply pw_below_drewN | apply below_drew1 | refine below_set ?_ GE222.out | refine below_set ?_ GE228.out) | exact HB.out)⟩⟩
                  · rw [if_neg c26] at H
                    have c26b0 : (((rd_T40 l0_0 x6_1).f0) == 10) = false := beq_eq_false_iff_ne.mpr c26
                    have c26b1 : (((rd_T40 l0_0 x6_1).f0) != 10) = true := bne_iff_ne.mpr c26
                    have H' := Aside0.mk H
                    clear H
                    have hnb30 := NB228_222.out
                    have hnc30 := NB222_228.out
                    have hcz31_0 : w22.cell? ⟨gb228, 0, none⟩ = some (.int .i64 ((rd_T40 l0_0 x6_1).f0)) := (blk_cell BK228.out 0).trans rfl
                    have hcz31_1 : w22.cell? ⟨gb228, 1, none⟩ = some (.slice A227_1 ((rd_T40 l0_0 x6_1).f1).length c227_1) := (blk_cell BK228.out 1).trans rfl
                    have hcz31_2 : w22.cell? ⟨gb228, 2, none⟩ = some (.int .i64 ((rd_T40 l0_0 x6_1).f2.f0)) := (blk_cell BK228.out 2).trans rfl
                    have hcz31_3 : w22.cell? ⟨gb228, 3, none⟩ = some (.int .i64 ((rd_T40 l0_0 x6_1).f2.f1)) := (blk_cell BK228.out 3).trans rfl
                    have hcz31_4 : w22.cell? ⟨gb228, 4, none⟩ = some (.slice A227_4 ((rd_T40 l0_0 x6_1).f2.f2).length c227_4) := (blk_cell BK228.out 4).trans rfl
                    have hcz31_5 : w22.cell? ⟨gb228, 5, none⟩ = some (.int .i64 ((rd_T40 l0_0 x6_1).f3)) := (blk_cell BK228.out 5).trans rfl
                    have hfz31_0 := blk_frozen BK228.out 0
                    have hfz31_1 := blk_frozen BK228.out 1
                    have hfz31_2 := blk_frozen BK228.out 2
                    have hfz31_3 := blk_frozen BK228.out 3
                    have hfz31_4 := blk_frozen BK228.out 4
                    have hfz31_5 := blk_frozen BK228.out 5
                    go_wp2
                    repeat (go_quiet (fail); try go_wp2)
                    go_meet
                    case rel => exact ⟨_, (false), (by first | rfl | (simp; done) | (simp [*]; done)), H', ⟨by have := HK1.out; first | omega | exact Nat.le_refl _⟩, ⟨by (with_reducible repeat (first | apply Kd.R_alloc | apply Kd.R_drewN | apply Kd.R_drew)); exact HO231.out⟩, ⟨by (with_reducible repeat (first | refine blk_drewN ?_ _ | refine blk_drew ?_ | refine blk_alloc ?_ _)); exact BK222.out⟩, ⟨by (with_reducible repeat (first | refine blk_drewN ?_ _ | refine blk_drew ?_ | refine blk_alloc ?_ _)); exact BK228.out⟩, ⟨by repeat (first | (with_reducible first | exact HB.out | apply below_alloc | apply pw_below_drewN | apply below_drew1 | refine below_set ?_ GE222.out | refine below_set ?_ GE228.out) | exact HB.out)⟩⟩
              case rest =>
                clear HC16
                try clear c1
                try clear c2
                try clear p2
                try clear q2
                try clear hx2
                try clear c3
                try clear c4
                try clear c6
                try clear c6b0
                try clear c6b1
                try clear c13
                try clear c13b0
                try clear c14
                try clear c14b0
                try clear c19
                try clear c22
                try clear p22
                try clear q22
                try clear hx22
                try clear c23
                try clear c23b0
                try clear c23b1
                try clear c23b2
                try clear c24
                try clear c26
                try clear c26b0
                try clear c26b1
                try clear c27
                try clear c30
                try clear hcz11_0
                try clear hcz11_1
                try clear hcz17_0
                try clear hcz17_1
                try clear hcz20_0
                try clear hcz20_1
                try clear hcz20_2
                try clear hcz20_3
                try clear hcz20_4
                try clear hcz20_5
                try clear hcz21_0
                try clear hcz21_1
                try clear hcz25_0
                try clear hcz25_1
                try clear hcz25_2
                try clear hcz25_3
                try clear hcz25_4
                try clear hcz25_5
                try clear hcz28_0
                try clear hcz28_1
                try clear hcz28_2
                try clear hcz28_3
                try clear hcz28_4
                try clear hcz28_5
                try clear hcz31_0
                try clear hcz31_1
                try clear hcz31_2
                try clear hcz31_3
                try clear hcz31_4
                try clear hcz31_5
                try clear hcz9_0
                try clear hcz9_1
                try clear hfz11_0
                try clear hfz11_1
                try clear hfz17_0
                try clear hfz17_1
                try clear hfz20_0
                try clear hfz20_1
                try clear hfz20_2
                try clear hfz20_3
                try clear hfz20_4
                try clear hfz20_5
                try clear hfz21_0
                try clear hfz21_1
                try clear hfz25_0
                try clear hfz25_1
                try clear hfz25_2
                try clear hfz25_3
                try clear hfz25_4
                try clear hfz25_5
                try clear hfz28_0
                try clear hfz28_1
                try clear hfz28_2
                try clear hfz28_3
                try clear hfz28_4
                try clear hfz28_5
                try clear hfz31_0
                try clear hfz31_1
                try clear hfz31_2
                try clear hfz31_3
                try clear hfz31_4
                try clear hfz31_5
                try clear hfz9_0
                try clear hfz9_1
                try clear hx227_0
                try clear hx227_1
                try clear hx227_2
                try clear hx227_3
                try clear hx227_4
                try clear hx227_5
                try clear p2
                try clear p227
                try clear q227
                obtain ⟨kq, x57_15, rfl, HA, HJ15, HO_8, BK222, BK228, HB⟩ := hcut
                cases kq with
                | zero => exact absurd HA.out (by simp [tidemilllaw05_TopoRings.j1])
                | succ kj15 =>
                  have H := HA.out
                  clear HA
                  simp only [tidemilllaw05_TopoRings.j1] at H
                  by_cases c32 : x57_15 = true
                  · subst c32
                    have H1 : (some false) = some r := by rw [if_pos rfl] at H; exact H
                    clear H
                    have H := H1
                    clear H1
                    obtain rfl := Option.some.inj H
                    go_wp2
                    repeat (go_quiet (fail); try go_wp2)
                    go_ret
                    exact ⟨by first | rfl | (simp [errW_none, errW_some] <;> rfl) | (simp [*, errW_none, errW_some] <;> rfl), by repeat (first | (with_reducible first | exact HB.out | apply below_alloc | apply pw_below_drewN | apply below_drew1 | refine below_set ?_ GE222.out | refine below_set ?_ GE228.out) | exact HB.out)⟩
                  · replace c32 := Bool.eq_false_iff.mpr c32
                    subst c32
                    have H1 : (tidemilllaw05_TopoRings.l1 kj15 t223 x6_1 t229 0 l0_0 a0_1) = some r := by rw [if_neg (show ¬ (false = true) by decide)] at H; exact H
                    clear H
                    have H := H1
                    clear H1
                    have H' := Aside0.mk H
                    clear H
                    go_wp2
                    repeat (go_quiet (fail); try go_wp2)
                    go_loopg [9] kj15 (fun kq v9 w' => ∃ (x9_3 : Int), v9 = .int .i64 x9_3 ∧ Aside0 (tidemilllaw05_TopoRings.l1 kq t223 x6_1 t229 x9_3 l0_0 a0_1 = some r) ∧ Aside0 (kq ≤ kj15) ∧ Aside0 (Kd.R (Kd.int .i64) 3 w' w.heap.size (fun _ => True) v230 t229) ∧ Aside0 (w'.heap[gb222]? = some (.cells #[(.slice (some ad227) l0_0.length c0_0), .int .i64 a0_1] 24 (0, 0))) ∧ Aside0 (w'.heap[gb228]? = some (.cells #[.int .i64 ((rd_T40 l0_0 x6_1).f0), (.slice A227_1 ((rd_T40 l0_0 x6_1).f1).length c227_1), .int .i64 ((rd_T40 l0_0 x6_1).f2.f0), .int .i64 ((rd_T40 l0_0 x6_1).f2.f1), (.slice A227_4 ((rd_T40 l0_0 x6_1).f2.f2).length c227_4), .int .i64 ((rd_T40 l0_0 x6_1).f3)] 40 (0, 0))) ∧ Aside0 (Below w.heap.size w w'))
                    case atStart => exact ⟨(0), (by first | rfl | (simp; done) | (simp [*]; done)), H', ⟨Nat.le_refl _⟩, ⟨by (with_reducible repeat (first | apply Kd.R_alloc | apply Kd.R_drewN | apply Kd.R_drew)); exact HO_8.out⟩, ⟨by (with_reducible repeat (first | refine blk_drewN ?_ _ | refine blk_drew ?_ | refine blk_alloc ?_ _)); exact BK222.out⟩, ⟨by (with_reducible repeat (first | refine blk_drewN ?_ _ | refine blk_drew ?_ | refine blk_alloc ?_ _)); exact BK228.out⟩, ⟨by repeat (first | (with_reducible first | exact HB.out | apply below_alloc | apply pw_below_drewN | apply below_drew1 | refine below_set ?_ GE222.out | refine below_set ?_ GE228.out) | exact HB.out)⟩⟩
                    case round =>
                      clear H'
                      try clear c1
                      try clear c2
                      try clear p2
                      try clear q2
                      try clear hx2
                      try clear c3
                      try clear c4
                      try clear c6
                      try clear c6b0
                      try clear c6b1
                      try clear c13
                      try clear c13b0
                      try clear c14
                      try clear c14b0
                      try clear c19
                      try clear c22
                      try clear p22
                      try clear q22
                      try clear hx22
                      try clear c23
                      try clear c23b0
                      try clear c23b1
                      try clear c23b2
                      try clear c24
                      try clear c26
                      try clear c26b0
                      try clear c26b1
                      try clear c27
                      try clear c30
                      try clear c32
                      try clear hcz11_0
                      try clear hcz11_1
                      try clear hcz17_0
                      try clear hcz17_1
                      try clear hcz20_0
                      try clear hcz20_1
                      try clear hcz20_2
                      try clear hcz20_3
                      try clear hcz20_4
                      try clear hcz20_5
                      try clear hcz21_0
                      try clear hcz21_1
                      try clear hcz25_0
                      try clear hcz25_1
                      try clear hcz25_2
                      try clear hcz25_3
                      try clear hcz25_4
                      try clear hcz25_5
                      try clear hcz28_0
                      try clear hcz28_1
                      try clear hcz28_2
                      try clear hcz28_3
                      try clear hcz28_4
                      try clear hcz28_5
                      try clear hcz31_0
                      try clear hcz31_1
                      try clear hcz31_2
                      try clear hcz31_3
                      try clear hcz31_4
                      try clear hcz31_5
                      try clear hcz9_0
                      try clear hcz9_1
                      try clear hfz11_0
                      try clear hfz11_1
                      try clear hfz17_0
                      try clear hfz17_1
                      try clear hfz20_0
                      try clear hfz20_1
                      try clear hfz20_2
                      try clear hfz20_3
                      try clear hfz20_4
                      try clear hfz20_5
                      try clear hfz21_0
                      try clear hfz21_1
                      try clear hfz25_0
                      try clear hfz25_1
                      try clear hfz25_2
                      try clear hfz25_3
                      try clear hfz25_4
                      try clear hfz25_5
                      try clear hfz28_0
                      try clear hfz28_1
                      try clear hfz28_2
                      try clear hfz28_3
                      try clear hfz28_4
                      try clear hfz28_5
                      try clear hfz31_0
                      try clear hfz31_1
                      try clear hfz31_2
                      try clear hfz31_3
                      try clear hfz31_4
                      try clear hfz31_5
                      try clear hfz9_0
                      try clear hfz9_1
                      try clear hx227_0
                      try clear hx227_1
                      try clear hx227_2
                      try clear hx227_3
                      try clear hx227_4
                      try clear hx227_5
                      try clear p2
                      try clear p22
                      try clear p227
                      try clear q2
                      try clear q22
                      try clear q227
                      obtain ⟨x9_3, rfl, HA, HK3, HO_8, BK222, BK228, HB⟩ := hrel
                      cases gk with
                      | zero => exact absurd HA.out (by simp [tidemilllaw05_TopoRings.l1])
                      | succ k3 =>
                        have H := HA.out
                        clear HA
                        simp only [tidemilllaw05_TopoRings.l1] at H
                        by_cases c33 : x9_3 < (t229.length : Int)
                        · rw [if_pos c33] at H
                          have c33b0 : decide (x9_3 < (t229.length : Int)) = true := decide_eq_true c33
                          clear c33
                          have H' := Aside0.mk H
                          clear H
                          obtain ⟨Ao34, co34, eo34⟩ := Kd.R_slice HO_8.out
                          subst eo34
                          go_wp2
                          repeat (go_quiet (fail); try go_wp2)
                          go_loopg [10, 11] k3 (fun kq v10 v11 w' => ∃ (x10_4 : Bool) (x11_4 : Int), v10 = .bool x10_4 ∧ v11 = .int .i64 x11_4 ∧ Aside0 (tidemilllaw05_TopoRings.l2 kq t223 x6_1 t229 x9_3 x10_4 x11_4 l0_0 a0_1 = some r) ∧ Aside0 (kq ≤ k3) ∧ Aside0 (Kd.R (Kd.int .i64) 3 w' w.heap.size (fun _ => True) (.slice Ao34 t229.length co34) t229) ∧ Aside0 (w'.heap[gb222]? = some (.cells #[(.slice (some ad227) l0_0.length c0_0), .int .i64 a0_1] 24 (0, 0))) ∧ Aside0 (w'.heap[gb228]? = some (.cells #[.int .i64 ((rd_T40 l0_0 x6_1).f0), (.slice A227_1 ((rd_T40 l0_0 x6_1).f1).length c227_1), .int .i64 ((rd_T40 l0_0 x6_1).f2.f0), .int .i64 ((rd_T40 l0_0 x6_1).f2.f1), (.slice A227_4 ((rd_T40 l0_0 x6_1).f2.f2).length c227_4), .int .i64 ((rd_T40 l0_0 x6_1).f3)] 40 (0, 0))) ∧ Aside0 (Below w.heap.size w w'))
                          case atStart => exact ⟨(false), (0), (by first | rfl | (simp; done) | (simp [*]; done)), (by first | rfl | (simp; done) | (simp [*]; done)), H', ⟨Nat.le_refl _⟩, ⟨by (with_reducible repeat (first | apply Kd.R_alloc | apply Kd.R_drewN | apply Kd.R_drew)); exact HO_8.out⟩, ⟨by (with_reducible repeat (first | refine blk_drewN ?_ _ | refine blk_drew ?_ | refine blk_alloc ?_ _)); exact BK222.out⟩, ⟨by (with_reducible repeat (first | refine blk_drewN ?_ _ | refine blk_drew ?_ | refine blk_alloc ?_ _)); exact BK228.out⟩, ⟨by repeat (first | (with_reducible first | exact HB.out | apply below_alloc | apply pw_below_drewN | apply below_drew1 | refine below_set ?_ GE222.out | refine below_set ?_ GE228.out) | exact HB.out)⟩⟩
                          case round =>
                            clear H'
                            try clear c1
                            try clear c2
                            try clear p2
                            try clear q2
                            try clear hx2
                            try clear c3
                            try clear c4
                            try clear c6
                            try clear c6b0
                            try clear c6b1
                            try clear c13
                            try clear c13b0
                            try clear c14
                            try clear c14b0
                            try clear c19
                            try clear c22
                            try clear p22
                            try clear q22
                            try clear hx22
                            try clear c23
                            try clear c23b0
                            try clear c23b1
                            try clear c23b2
                            try clear c24
                            try clear c26
                            try clear c26b0
                            try clear c26b1
                            try clear c27
                            try clear c30
                            try clear c32
                            try clear c33
                            try clear c33b0
                            try clear hcz11_0
                            try clear hcz11_1
                            try clear hcz17_0
                            try clear hcz17_1
                            try clear hcz20_0
                            try clear hcz20_1
                            try clear hcz20_2
                            try clear hcz20_3
                            try clear hcz20_4
                            try clear hcz20_5
                            try clear hcz21_0
                            try clear hcz21_1
                            try clear hcz25_0
                            try clear hcz25_1
                            try clear hcz25_2
                            try clear hcz25_3
                            try clear hcz25_4
                            try clear hcz25_5
                            try clear hcz28_0
                            try clear hcz28_1
                            try clear hcz28_2
                            try clear hcz28_3
                            try clear hcz28_4
                            try clear hcz28_5
                            try clear hcz31_0
                            try clear hcz31_1
                            try clear hcz31_2
                            try clear hcz31_3
                            try clear hcz31_4
                            try clear hcz31_5
                            try clear hcz9_0
                            try clear hcz9_1
                            try clear hfz11_0
                            try clear hfz11_1
                            try clear hfz17_0
                            try clear hfz17_1
                            try clear hfz20_0
                            try clear hfz20_1
                            try clear hfz20_2
                            try clear hfz20_3
                            try clear hfz20_4
                            try clear hfz20_5
                            try clear hfz21_0
                            try clear hfz21_1
                            try clear hfz25_0
                            try clear hfz25_1
                            try clear hfz25_2
                            try clear hfz25_3
                            try clear hfz25_4
                            try clear hfz25_5
                            try clear hfz28_0
                            try clear hfz28_1
                            try clear hfz28_2
                            try clear hfz28_3
                            try clear hfz28_4
                            try clear hfz28_5
                            try clear hfz31_0
                            try clear hfz31_1
                            try clear hfz31_2
                            try clear hfz31_3
                            try clear hfz31_4
                            try clear hfz31_5
                            try clear hfz9_0
                            try clear hfz9_1
                            try clear hx227_0
                            try clear hx227_1
                            try clear hx227_2
                            try clear hx227_3
                            try clear hx227_4
                            try clear hx227_5
                            try clear p2
                            try clear p22
                            try clear p227
                            try clear q2
                            try clear q22
                            try clear q227
                            obtain ⟨x10_4, x11_4, rfl, rfl, HA, HK4, HO_8, BK222, BK228, HB⟩ := hrel
                            cases gk with
                            | zero => exact absurd HA.out (by simp [tidemilllaw05_TopoRings.l2])
                            | succ k4 =>
                              have H := HA.out
                              clear HA
                              simp only [tidemilllaw05_TopoRings.l2] at H
                              by_cases c35 : 0 ≤ x9_3
                              · rw [if_pos c35] at H
                                have c35b0 : decide (0 ≤ x9_3) = true := decide_eq_true c35
                                clear c35
                                by_cases c36 : x9_3 < (t229.length : Int)
                                · rw [if_pos c36] at H
                                  have c36b0 : decide (x9_3 < (t229.length : Int)) = true := decide_eq_true c36
                                  clear c36
                                  by_cases c37 : 0 ≤ (rd t229 x9_3)
                                  · rw [if_pos c37] at H
                                    have c37b0 : decide (0 ≤ (rd t229 x9_3)) = true := decide_eq_true c37
                                    clear c37
                                    by_cases c38 : (rd t229 x9_3) < (l0_0.length : Int)
                                    · rw [if_pos c38] at H
                                      have c38b0 : decide ((rd t229 x9_3) < (l0_0.length : Int)) = true := decide_eq_true c38
                                      clear c38
                                      by_cases c39 : x11_4 < (((rd_T40 l0_0 (rd t229 x9_3)).f1).length : Int)
                                      · rw [if_pos c39] at H
                                        have c39b0 : decide (x11_4 < (((rd_T40 l0_0 (rd t229 x9_3)).f1).length : Int)) = true := decide_eq_true c39
                                        clear c39
                                        by_cases c40 : x10_4 = true
                                        · subst c40
                                          have H1 : (tidemilllaw05_TopoRings.l2 k4 t223 x6_1 t229 x9_3 true (wrap64 (x11_4 + 1)) l0_0 a0_1) = some r := by rw [if_pos rfl] at H; exact H
                                          clear H
                                          have H := H1
                                          clear H1
                                          have H' := Aside0.mk H
                                          clear H
                                          have hnb41 := NB222_228.out
                                          have hnc41 := NB228_222.out
                                          have hcz42_0 : wr.cell? ⟨gb222, 0, none⟩ = some (.slice (some ad227) l0_0.length c0_0) := (blk_cell BK222.out 0).trans rfl
                                          have hcz42_1 : wr.cell? ⟨gb222, 1, none⟩ = some (.int .i64 a0_1) := (blk_cell BK222.out 1).trans rfl
                                          have hfz42_0 := blk_frozen BK222.out 0
                                          have hfz42_1 := blk_frozen BK222.out 1
                                          have p232 : 0 ≤ (x9_3 : Int) := of_decide_eq_true (by first | (with_reducible assumption) | assumption)
                                          have q232 : x9_3 < (t229.length : Int) := of_decide_eq_true (by first | (with_reducible assumption) | assumption)
                                          obtain ⟨ad232, e232, hx232_0⟩ := Kd.at_int (Kd.R_reads' HO_8.out).2.2 x9_3 p232 q232
                                          cases e232
                                          replace p232 := eq_true p232
                                          replace q232 := eq_true q232
                                          have p233 : 0 ≤ ((rd t229 x9_3) : Int) := of_decide_eq_true (by first | (with_reducible assumption) | assumption)
                                          have q233 : (rd t229 x9_3) < (l0_0.length : Int) := of_decide_eq_true (by first | (with_reducible assumption) | assumption)
                                          obtain ⟨ad233, A233_1, c233_1, A233_4, c233_4, e233, hx233_0, hx233_1, hx233_2, hx233_3, hx233_4, hx233_5, hl233_1, hi233_1, hl233_4, hi233_4⟩ := at_T40 HR0_0.out (rd t229 x9_3) p233 q233
                                          obtain rfl : ad227 = ad233 := (by injection e233)
                                          replace hx233_0 := (HB.out.cell (World.block_lt_of_cell? w _ hx233_0)).trans hx233_0
                                          replace hx233_1 := (HB.out.cell (World.block_lt_of_cell? w _ hx233_1)).trans hx233_1
                                          replace hx233_2 := (HB.out.cell (World.block_lt_of_cell? w _ hx233_2)).trans hx233_2
                                          replace hx233_3 := (HB.out.cell (World.block_lt_of_cell? w _ hx233_3)).trans hx233_3
                                          replace hx233_4 := (HB.out.cell (World.block_lt_of_cell? w _ hx233_4)).trans hx233_4
                                          replace hx233_5 := (HB.out.cell (World.block_lt_of_cell? w _ hx233_5)).trans hx233_5
                                          have HR233_1 := Aside0.mk hi233_1
                                          have HC233_1 := Aside0.mk hl233_1
                                          clear hi233_1 hl233_1
                                          have HR233_4 := Aside0.mk hi233_4
                                          have HC233_4 := Aside0.mk hl233_4
                                          clear hi233_4 hl233_4
                                          replace p233 := eq_true p233
                                          replace q233 := eq_true q233
                                          go_wp2
                                          repeat (go_quiet (fail); try go_wp2)
                                          go_roundg k4
                                          case measure => have := HK1.out; have := HJ15.out; have := HK3.out; have := HK4.out; omega
                                          case rel => exact ⟨(true), (wrap64 (x11_4 + 1)), (by first | rfl | (simp; done) | (simp [*]; done)), (by first | rfl | (simp; done) | (simp [*]; done)), H', ⟨by have := HK1.out; have := HJ15.out; have := HK3.out; have := HK4.out; omega⟩, ⟨by (with_reducible repeat (first | apply Kd.R_alloc | apply Kd.R_drewN | apply Kd.R_drew)); exact HO_8.out⟩, ⟨by (with_reducible repeat (first | refine blk_drewN ?_ _ | refine blk_drew ?_ | refine blk_alloc ?_ _)); exact BK222.out⟩, ⟨by (with_reducible repeat (first | refine blk_drewN ?_ _ | refine blk_drew ?_ | refine blk_alloc ?_ _)); exact BK228.out⟩, ⟨by repeat (first | (with_reducible first | exact HB.out | apply below_alloc | apply pw_below_drewN | apply below_drew1 | refine below_set ?_ GE222.out | refine below_set ?_ GE228.out) | exact HB.out)⟩⟩
                                        · replace c40 := Bool.eq_false_iff.mpr c40
                                          subst c40
                                          have H1 : (if 0 ≤ x11_4 then (tidemilllaw05_TopoRings.l2 k4 t223 x6_1 t229 x9_3 ((rd ((rd_T40 l0_0 (rd t229 x9_3)).f1) x11_4) == x6_1) (wrap64 (x11_4 + 1)) l0_0 a0_1) else (none)) = some r := by rw [if_neg (show ¬ (false = true) by decide)] at H; exact H
                                          clear H
                                          have H := H1
                                          clear H1
                                          by_cases c43 : 0 ≤ x11_4
                                          · rw [if_pos c43] at H
                                            have c43b0 : decide (0 ≤ x11_4) = true := decide_eq_true c43
                                            clear c43
                                            have H' := Aside0.mk H
                                            clear H
                                            have hnb44 := NB222_228.out
                                            have hnc44 := NB228_222.out
                                            have hcz45_0 : wr.cell? ⟨gb222, 0, none⟩ = some (.slice (some ad227) l0_0.length c0_0) := (blk_cell BK222.out 0).trans rfl
                                            have hcz45_1 : wr.cell? ⟨gb222, 1, none⟩ = some (.int .i64 a0_1) := (blk_cell BK222.out 1).trans rfl
                                            have hfz45_0 := blk_frozen BK222.out 0
                                            have hfz45_1 := blk_frozen BK222.out 1
                                            have p232 : 0 ≤ (x9_3 : Int) := of_decide_eq_true (by first | (with_reducible assumption) | assumption)
                                            have q232 : x9_3 < (t229.length : Int) := of_decide_eq_true (by first | (with_reducible assumption) | assumption)
                                            obtain ⟨ad232, e232, hx232_0⟩ := Kd.at_int (Kd.R_reads' HO_8.out).2.2 x9_3 p232 q232
                                            cases e232
                                            replace p232 := eq_true p232
                                            replace q232 := eq_true q232
                                            have p233 : 0 ≤ ((rd t229 x9_3) : Int) := of_decide_eq_true (by first | (with_reducible assumption) | assumption)
                                            have q233 : (rd t229 x9_3) < (l0_0.length : Int) := of_decide_eq_true (by first | (with_reducible assumption) | assumption)
                                            obtain ⟨ad233, A233_1, c233_1, A233_4, c233_4, e233, hx233_0, hx233_1, hx233_2, hx233_3, hx233_4, hx233_5, hl233_1, hi233_1, hl233_4, hi233_4⟩ := at_T40 HR0_0.out (rd t229 x9_3) p233 q233
                                            obtain rfl : ad227 = ad233 := (by injection e233)
                                            replace hx233_0 := (HB.out.cell (World.block_lt_of_cell? w _ hx233_0)).trans hx233_0
                                            replace hx233_1 := (HB.out.cell (World.block_lt_of_cell? w _ hx233_1)).trans hx233_1
                                            replace hx233_2 := (HB.out.cell (World.block_lt_of_cell? w _ hx233_2)).trans hx233_2
                                            replace hx233_3 := (HB.out.cell (World.block_lt_of_cell? w _ hx233_3)).trans hx233_3
                                            replace hx233_4 := (HB.out.cell (World.block_lt_of_cell? w _ hx233_4)).trans hx233_4
                                            replace hx233_5 := (HB.out.cell (World.block_lt_of_cell? w _ hx233_5)).trans hx233_5
                                            have HR233_1 := Aside0.mk hi233_1
                                            have HC233_1 := Aside0.mk hl233_1
                                            clear hi233_1 hl233_1
                                            have HR233_4 := Aside0.mk hi233_4
                                            have HC233_4 := Aside0.mk hl233_4
                                            clear hi233_4 hl233_4
                                            replace p233 := eq_true p233
                                            replace q233 := eq_true q233
                                            have p234 : 0 ≤ (x9_3 : Int) := of_decide_eq_true (by first | (with_reducible assumption) | assumption)
                                            have q234 : x9_3 < (t229.length : Int) := of_decide_eq_true (by first | (with_reducible assumption) | assumption)
                                            obtain ⟨ad234, e234, hx234_0⟩ := Kd.at_int (Kd.R_reads' HO_8.out).2.2 x9_3 p234 q234
                                            obtain rfl : ad232 = ad234 := (by injection e234)
                                            replace p234 := eq_true p234
                                            replace q234 := eq_true q234
                                            have p235 : 0 ≤ ((rd t229 x9_3) : Int) := of_decide_eq_true (by first | (with_reducible assumption) | assumption)
                                            have q235 : (rd t229 x9_3) < (l0_0.length : Int) := of_decide_eq_true (by first | (with_reducible assumption) | assumption)
                                            obtain ⟨ad235, A235_1, c235_1, A235_4, c235_4, e235, hx235_0, hx235_1, hx235_2, hx235_3, hx235_4, hx235_5, hl235_1, hi235_1, hl235_4, hi235_4⟩ := at_T40 HR0_0.out (rd t229 x9_3) p235 q235
                                            obtain rfl : ad227 = ad235 := (by injection e235)
                                            replace hx235_0 := (HB.out.cell (World.block_lt_of_cell? w _ hx235_0)).trans hx235_0
                                            replace hx235_1 := (HB.out.cell (World.block_lt_of_cell? w _ hx235_1)).trans hx235_1
                                            replace hx235_2 := (HB.out.cell (World.block_lt_of_cell? w _ hx235_2)).trans hx235_2
                                            replace hx235_3 := (HB.out.cell (World.block_lt_of_cell? w _ hx235_3)).trans hx235_3
                                            replace hx235_4 := (HB.out.cell (World.block_lt_of_cell? w _ hx235_4)).trans hx235_4
                                            replace hx235_5 := (HB.out.cell (World.block_lt_of_cell? w _ hx235_5)).trans hx235_5
                                            have HR235_1 := Aside0.mk hi235_1
                                            have HC235_1 := Aside0.mk hl235_1
                                            clear hi235_1 hl235_1
                                            have HR235_4 := Aside0.mk hi235_4
                                            have HC235_4 := Aside0.mk hl235_4
                                            clear hi235_4 hl235_4
                                            replace p235 := eq_true p235
                                            replace q235 := eq_true q235
                                            have ea_ := Option.some.inj (hx233_1.symm.trans hx235_1)
                                            injection ea_ with ea_ en_ ec_
                                            subst ea_
                                            subst ec_
                                            clear en_
                                            have ea_ := Option.some.inj (hx233_4.symm.trans hx235_4)
                                            injection ea_ with ea_ en_ ec_
                                            subst ea_
                                            subst ec_
                                            clear en_
                                            have p236 : 0 ≤ (x11_4 : Int) := of_decide_eq_true (by first | (with_reducible assumption) | assumption)
                                            have q236 : x11_4 < (((rd_T40 l0_0 (rd t229 x9_3)).f1).length : Int) := of_decide_eq_true (by first | (with_reducible assumption) | assumption)
                                            obtain ⟨ad236, e236, hx236_0⟩ := Kd.at_int HR235_1.out x11_4 p236 q236
                                            cases e236
                                            replace hx236_0 := (HB.out.cell (World.block_lt_of_cell? w _ hx236_0)).trans hx236_0
                                            replace p236 := eq_true p236
                                            replace q236 := eq_true q236
                                            go_wp2
                                            repeat (go_quiet (fail); try go_wp2)
                                            go_roundg k4
                                            case measure => have := HK1.out; have := HJ15.out; have := HK3.out; have := HK4.out; omega
                                            case rel => exact ⟨(((rd ((rd_T40 l0_0 (rd t229 x9_3)).f1) x11_4) == x6_1)), (wrap64 (x11_4 + 1)), (by first | rfl | (simp; done) | (simp [*]; done)), (by first | rfl | (simp; done) | (simp [*]; done)), H', ⟨by have := HK1.out; have := HJ15.out; have := HK3.out; have := HK4.out; omega⟩, ⟨by (with_reducible repeat (first | apply Kd.R_alloc | apply Kd.R_drewN | apply Kd.R_drew)); exact HO_8.out⟩, ⟨by (with_reducible repeat (first | refine blk_drewN ?_ _ | refine blk_drew ?_ | refine blk_alloc ?_ _)); exact BK222.out⟩, ⟨by (with_reducible repeat (first | refine blk_drewN ?_ _ | refine blk_drew ?_ | refine blk_alloc ?_ _)); exact BK228.out⟩, ⟨by repeat (first | (with_reducible first | exact HB.out | apply below_alloc | apply pw_below_drewN | apply below_drew1 | refine below_set ?_ GE222.out | refine below_set ?_ GE228.out) | exact HB.out)⟩⟩
                                          · rw [if_neg c43] at H
                                            exact absurd H (by simp)
                                      · rw [if_neg c39] at H
                                        have c39b0 : decide (x11_4 < (((rd_T40 l0_0 (rd t229 x9_3)).f1).length : Int)) = false := decide_eq_false c39
                                        clear c39
                                        by_cases c46 : (rd t229 x9_3) ≤ x6_1
                                        · rw [if_pos c46] at H
                                          have c46b0 : decide ((rd t229 x9_3) ≤ x6_1) = true := decide_eq_true c46
                                          clear c46
                                          obtain rfl := Option.some.inj H
                                          have hnb47 := NB222_228.out
                                          have hnc47 := NB228_222.out
                                          have hcz48_0 : wr.cell? ⟨gb222, 0, none⟩ = some (.slice (some ad227) l0_0.length c0_0) := (blk_cell BK222.out 0).trans rfl
                                          have hcz48_1 : wr.cell? ⟨gb222, 1, none⟩ = some (.int .i64 a0_1) := (blk_cell BK222.out 1).trans rfl
                                          have hfz48_0 := blk_frozen BK222.out 0
                                          have hfz48_1 := blk_frozen BK222.out 1
                                          have p232 : 0 ≤ (x9_3 : Int) := of_decide_eq_true (by first | (with_reducible assumption) | assumption)
                                          have q232 : x9_3 < (t229.length : Int) := of_decide_eq_true (by first | (with_reducible assumption) | assumption)
                                          obtain ⟨ad232, e232, hx232_0⟩ := Kd.at_int (Kd.R_reads' HO_8.out).2.2 x9_3 p232 q232
                                          cases e232
                                          replace p232 := eq_true p232
                                          replace q232 := eq_true q232
                                          have p233 : 0 ≤ ((rd t229 x9_3) : Int) := of_decide_eq_true (by first | (with_reducible assumption) | assumption)
                                          have q233 : (rd t229 x9_3) < (l0_0.length : Int) := of_decide_eq_true (by first | (with_reducible assumption) | assumption)
                                          obtain ⟨ad233, A233_1, c233_1, A233_4, c233_4, e233, hx233_0, hx233_1, hx233_2, hx233_3, hx233_4, hx233_5, hl233_1, hi233_1, hl233_4, hi233_4⟩ := at_T40 HR0_0.out (rd t229 x9_3) p233 q233
                                          obtain rfl : ad227 = ad233 := (by injection e233)
                                          replace hx233_0 := (HB.out.cell (World.block_lt_of_cell? w _ hx233_0)).trans hx233_0
                                          replace hx233_1 := (HB.out.cell (World.block_lt_of_cell? w _ hx233_1)).trans hx233_1
                                          replace hx233_2 := (HB.out.cell (World.block_lt_of_cell? w _ hx233_2)).trans hx233_2
                                          replace hx233_3 := (HB.out.cell (World.block_lt_of_cell? w _ hx233_3)).trans hx233_3
                                          replace hx233_4 := (HB.out.cell (World.block_lt_of_cell? w _ hx233_4)).trans hx233_4
                                          replace hx233_5 := (HB.out.cell (World.block_lt_of_cell? w _ hx233_5)).trans hx233_5
                                          have HR233_1 := Aside0.mk hi233_1
                                          have HC233_1 := Aside0.mk hl233_1
                                          clear hi233_1 hl233_1
                                          have HR233_4 := Aside0.mk hi233_4
                                          have HC233_4 := Aside0.mk hl233_4
                                          clear hi233_4 hl233_4
                                          replace p233 := eq_true p233
                                          replace q233 := eq_true q233
                                          have p237 : 0 ≤ (x9_3 : Int) := of_decide_eq_true (by first | (with_reducible assumption) | assumption)
                                          have q237 : x9_3 < (t229.length : Int) := of_decide_eq_true (by first | (with_reducible assumption) | assumption)
                                          obtain ⟨ad237, e237, hx237_0⟩ := Kd.at_int (Kd.R_reads' HO_8.out).2.2 x9_3 p237 q237
                                          obtain rfl : ad232 = ad237 := (by injection e237)
                                          replace p237 := eq_true p237
                                          replace q237 := eq_true q237
                                          go_wp2
                                          repeat (go_quiet (fail); try go_wp2)
                                          go_ret
                                          exact ⟨by first | rfl | (simp [errW_none, errW_some] <;> rfl) | (simp [*, errW_none, errW_some] <;> rfl), by repeat (first | (with_reducible first | exact HB.out | apply below_alloc | apply pw_below_drewN | apply below_drew1 | refine below_set ?_ GE222.out | refine below_set ?_ GE228.out) | exact HB.out)⟩
                                        · rw [if_neg c46] at H
                                          have c46b0 : decide ((rd t229 x9_3) ≤ x6_1) = false := decide_eq_false c46
                                          clear c46
                                          by_cases c49 : x10_4 = true
                                          · subst c49
                                            have H1 : (tidemilllaw05_TopoRings.l1 k4 t223 x6_1 t229 (wrap64 (x9_3 + 1)) l0_0 a0_1) = some r := by rw [if_pos rfl] at H; exact H
                                            clear H
                                            have H := H1
                                            clear H1
                                            have H' := Aside0.mk H
                                            clear H
                                            have hnb50 := NB222_228.out
                                            have hnc50 := NB228_222.out
                                            have hcz51_0 : wr.cell? ⟨gb222, 0, none⟩ = some (.slice (some ad227) l0_0.length c0_0) := (blk_cell BK222.out 0).trans rfl
                                            have hcz51_1 : wr.cell? ⟨gb222, 1, none⟩ = some (.int .i64 a0_1) := (blk_cell BK222.out 1).trans rfl
                                            have hfz51_0 := blk_frozen BK222.out 0
                                            have hfz51_1 := blk_frozen BK222.out 1
                                            have p232 : 0 ≤ (x9_3 : Int) := of_decide_eq_true (by first | (with_reducible assumption) | assumption)
                                            have q232 : x9_3 < (t229.length : Int) := of_decide_eq_true (by first | (with_reducible assumption) | assumption)
                                            obtain ⟨ad232, e232, hx232_0⟩ := Kd.at_int (Kd.R_reads' HO_8.out).2.2 x9_3 p232 q232
                                            cases e232
                                            replace p232 := eq_true p232
                                            replace q232 := eq_true q232
                                            have p233 : 0 ≤ ((rd t229 x9_3) : Int) := of_decide_eq_true (by first | (with_reducible assumption) | assumption)
                                            have q233 : (rd t229 x9_3) < (l0_0.length : Int) := of_decide_eq_true (by first | (with_reducible assumption) | assumption)
                                            obtain ⟨ad233, A233_1, c233_1, A233_4, c233_4, e233, hx233_0, hx233_1, hx233_2, hx233_3, hx233_4, hx233_5, hl233_1, hi233_1, hl233_4, hi233_4⟩ := at_T40 HR0_0.out (rd t229 x9_3) p233 q233
                                            obtain rfl : ad227 = ad233 := (by injection e233)
                                            replace hx233_0 := (HB.out.cell (World.block_lt_of_cell? w _ hx233_0)).trans hx233_0
                                            replace hx233_1 := (HB.out.cell (World.block_lt_of_cell? w _ hx233_1)).trans hx233_1
                                            replace hx233_2 := (HB.out.cell (World.block_lt_of_cell? w _ hx233_2)).trans hx233_2
                                            replace hx233_3 := (HB.out.cell (World.block_lt_of_cell? w _ hx233_3)).trans hx233_3
                                            replace hx233_4 := (HB.out.cell (World.block_lt_of_cell? w _ hx233_4)).trans hx233_4
                                            replace hx233_5 := (HB.out.cell (World.block_lt_of_cell? w _ hx233_5)).trans hx233_5
                                            have HR233_1 := Aside0.mk hi233_1
                                            have HC233_1 := Aside0.mk hl233_1
                                            clear hi233_1 hl233_1
                                            have HR233_4 := Aside0.mk hi233_4
                                            have HC233_4 := Aside0.mk hl233_4
                                            clear hi233_4 hl233_4
                                            replace p233 := eq_true p233
                                            replace q233 := eq_true q233
                                            have p237 : 0 ≤ (x9_3 : Int) := of_decide_eq_true (by first | (with_reducible assumption) | assumption)
                                            have q237 : x9_3 < (t229.length : Int) := of_decide_eq_true (by first | (with_reducible assumption) | assumption)
                                            obtain ⟨ad237, e237, hx237_0⟩ := Kd.at_int (Kd.R_reads' HO_8.out).2.2 x9_3 p237 q237
                                            obtain rfl : ad232 = ad237 := (by injection e237)
                                            replace p237 := eq_true p237
                                            replace q237 := eq_true q237
                                            go_wp2
                                            repeat (go_quiet (fail); try go_wp2)
                                            go_roundg k4
                                            case measure => have := HK1.out; have := HJ15.out; have := HK3.out; have := HK4.out; omega
                                            case rel => exact ⟨(wrap64 (x9_3 + 1)), (by first | rfl | (simp; done) | (simp [*]; done)), H', ⟨by have := HK1.out; have := HJ15.out; have := HK3.out; have := HK4.out; omega⟩, ⟨by (with_reducible repeat (first | apply Kd.R_alloc | apply Kd.R_drewN | apply Kd.R_drew)); exact HO_8.out⟩, ⟨by (with_reducible repeat (first | refine blk_drewN ?_ _ | refine blk_drew ?_ | refine blk_alloc ?_ _)); exact BK222.out⟩, ⟨by (with_reducible repeat (first | refine blk_drewN ?_ _ | refine blk_drew ?_ | refine blk_alloc ?_ _)); exact BK228.out⟩, ⟨by repeat (first | (with_reducible first | exact HB.out | apply below_alloc | apply pw_below_drewN | apply below_drew1 | refine below_set ?_ GE222.out | refine below_set ?_ GE228.out) | exact HB.out)⟩⟩
                                          · replace c49 := Bool.eq_false_iff.mpr c49
                                            subst c49
                                            have H1 : (some false) = some r := by rw [if_neg (show ¬ (false = true) by decide)] at H; exact H
                                            clear H
                                            have H := H1
                                            clear H1
                                            obtain rfl := Option.some.inj H
                                            have hnb52 := NB222_228.out
                                            have hnc52 := NB228_222.out
                                            have hcz53_0 : wr.cell? ⟨gb222, 0, none⟩ = some (.slice (some ad227) l0_0.length c0_0) := (blk_cell BK222.out 0).trans rfl
                                            have hcz53_1 : wr.cell? ⟨gb222, 1, none⟩ = some (.int .i64 a0_1) := (blk_cell BK222.out 1).trans rfl
                                            have hfz53_0 := blk_frozen BK222.out 0
                                            have hfz53_1 := blk_frozen BK222.out 1
                                            have p232 : 0 ≤ (x9_3 : Int) := of_decide_eq_true (by first | (with_reducible assumption) | assumption)
                                            have q232 : x9_3 < (t229.length : Int) := of_decide_eq_true (by first | (with_reducible assumption) | assumption)
                                            obtain ⟨ad232, e232, hx232_0⟩ := Kd.at_int (Kd.R_reads' HO_8.out).2.2 x9_3 p232 q232
                                            cases e232
                                            replace p232 := eq_true p232
                                            replace q232 := eq_true q232
                                            have p233 : 0 ≤ ((rd t229 x9_3) : Int) := of_decide_eq_true (by first | (with_reducible assumption) | assumption)
                                            have q233 : (rd t229 x9_3) < (l0_0.length : Int) := of_decide_eq_true (by first | (with_reducible assumption) | assumption)
                                            obtain ⟨ad233, A233_1, c233_1, A233_4, c233_4, e233, hx233_0, hx233_1, hx233_2, hx233_3, hx233_4, hx233_5, hl233_1, hi233_1, hl233_4, hi233_4⟩ := at_T40 HR0_0.out (rd t229 x9_3) p233 q233
                                            obtain rfl : ad227 = ad233 := (by injection e233)
                                            replace hx233_0 := (HB.out.cell (World.block_lt_of_cell? w _ hx233_0)).trans hx233_0
                                            replace hx233_1 := (HB.out.cell (World.block_lt_of_cell? w _ hx233_1)).trans hx233_1
                                            replace hx233_2 := (HB.out.cell (World.block_lt_of_cell? w _ hx233_2)).trans hx233_2
                                            replace hx233_3 := (HB.out.cell (World.block_lt_of_cell? w _ hx233_3)).trans hx233_3
                                            replace hx233_4 := (HB.out.cell (World.block_lt_of_cell? w _ hx233_4)).trans hx233_4
                                            replace hx233_5 := (HB.out.cell (World.block_lt_of_cell? w _ hx233_5)).trans hx233_5
                                            have HR233_1 := Aside0.mk hi233_1
                                            have HC233_1 := Aside0.mk hl233_1
                                            clear hi233_1 hl233_1
                                            have HR233_4 := Aside0.mk hi233_4
                                            have HC233_4 := Aside0.mk hl233_4
                                            clear hi233_4 hl233_4
                                            replace p233 := eq_true p233
                                            replace q233 := eq_true q233
                                            have p237 : 0 ≤ (x9_3 : Int) := of_decide_eq_true (by first | (with_reducible assumption) | assumption)
                                            have q237 : x9_3 < (t229.length : Int) := of_decide_eq_true (by first | (with_reducible assumption) | assumption)
                                            obtain ⟨ad237, e237, hx237_0⟩ := Kd.at_int (Kd.R_reads' HO_8.out).2.2 x9_3 p237 q237
                                            obtain rfl : ad232 = ad237 := (by injection e237)
                                            replace p237 := eq_true p237
                                            replace q237 := eq_true q237
                                            go_wp2
                                            repeat (go_quiet (fail); try go_wp2)
                                            go_ret
                                            exact ⟨by first | rfl | (simp [errW_none, errW_some] <;> rfl) | (simp [*, errW_none, errW_some] <;> rfl), by repeat (first | (with_reducible first | exact HB.out | apply below_alloc | apply pw_below_drewN | apply below_drew1 | refine below_set ?_ GE222.out | refine below_set ?_ GE228.out) | exact HB.out)⟩
                                    · rw [if_neg c38] at H
                                      exact absurd H (by simp)
                                  · rw [if_neg c37] at H
                                    exact absurd H (by simp)
                                · rw [if_neg c36] at H
                                  exact absurd H (by simp)
                              · rw [if_neg c35] at H
                                exact absurd H (by simp)
                        · rw [if_neg c33] at H
                          have c33b0 : decide (x9_3 < (t229.length : Int)) = false := decide_eq_false c33
                          clear c33
                          have H' := Aside0.mk H
                          clear H
                          obtain ⟨Ao54, co54, eo54⟩ := Kd.R_slice HO_8.out
                          subst eo54
                          go_wp2
                          repeat (go_quiet (fail); try go_wp2)
                          go_roundg k3
                          case measure => have := HK1.out; have := HJ15.out; have := HK3.out; omega
                          case rel => exact ⟨(wrap64 (x6_1 + 1)), (by first | rfl | (simp; done) | (simp [*]; done)), H', ⟨by have := HK1.out; have := HJ15.out; have := HK3.out; omega⟩, ⟨by (with_reducible repeat (first | refine blk_drewN ?_ _ | refine blk_drew ?_ | refine blk_alloc ?_ _)); exact BK222.out⟩, ⟨by repeat (first | (with_reducible first | exact HB.out | apply below_alloc | apply pw_below_drewN | apply below_drew1 | refine below_set ?_ GE222.out | refine below_set ?_ GE228.out) | exact HB.out)⟩⟩
            · rw [if_neg c14] at H
              exact absurd H (by simp)
          · rw [if_neg c13] at H
            have c13b0 : decide (x6_1 < (l0_0.length : Int)) = false := decide_eq_false c13
            clear c13
            obtain rfl := Option.some.inj H
            have hcz55_0 : wr.cell? ⟨gb222, 0, none⟩ = some (.slice A0_0 l0_0.length c0_0) := (blk_cell BK222.out 0).trans rfl
            have hcz55_1 : wr.cell? ⟨gb222, 1, none⟩ = some (.int .i64 a0_1) := (blk_cell BK222.out 1).trans rfl
            have hfz55_0 := blk_frozen BK222.out 0
            have hfz55_1 := blk_frozen BK222.out 1
            go_wp2
            repeat (go_quiet (fail); try go_wp2)
            go_ret
            exact ⟨by first | rfl | (simp [errW_none, errW_some] <;> rfl) | (simp [*, errW_none, errW_some] <;> rfl), by repeat (first | (with_reducible first | exact HB.out | apply below_alloc | apply pw_below_drewN | apply below_drew1 | refine below_set ?_ GE222.out) | exact HB.out)⟩
    · rw [if_neg c6] at H
      have c6b0 : (t226 == 0) = false := beq_eq_false_iff_ne.mpr c6
      have c6b1 : (t226 != 0) = true := bne_iff_ne.mpr c6
      obtain rfl := Option.some.inj H
      go_enter Try.func4, Try.ntmps4
      go_wp2_with (first | ((with_reducible refine gate_dst (N := 1) rfl ?_); (try (refine gate_guard (by rfl) ?_; dsimp only)); refine box_event ?hg (N := 1) ?hd (cs := #[.slice A0_0 l0_0.length c0_0, .int .i64 a0_1]) (t := 24) ?hr ?_; (case hd => rfl); (case hg => rfl); (case hr => first | (go_simp; done) | (go_simp; rfl)); intro gb222 hg w56 hbox hb; have n0_ := Aside0.mk (below_step (by repeat (first | (with_reducible first | exact HB.out | apply below_alloc | apply pw_below_drewN | apply below_drew1) | exact HB.out)) hb); have n1_ := Aside0.mk (hbox); have n2_ := Aside0.mk ((by rw [hg]; exact (below_size (by repeat (first | (with_reducible first | exact HB.out | apply below_alloc | apply pw_below_drewN | apply below_drew1) | exact HB.out))) : w.heap.size ≤ gb222)); have n3_ := Aside0.mk ((by rw [hg]; exact (below_size (by repeat (first | (with_reducible first | exact HB.out | apply below_alloc | apply pw_below_drewN | apply below_drew1) | exact HB.out))) : w.heap.size ≤ gb222)); clear HB; have HB := n0_; have BK222 := n1_; have GW222 := n2_; have GE222 := n3_; clear n0_ n1_ n2_ n3_; clear hb hbox hg) | (go_at_call 8; (with_reducible refine (tidemilllaw05_shown.calls k  t223 _ A2.out).mono ?_); rintro e w57 ⟨rfl, hb⟩; have n0_ := Aside0.mk (blk_below (g := gb222) (o := .cells #[.slice A0_0 l0_0.length c0_0, .int .i64 a0_1] 24 (0, 0)) (by (with_reducible repeat (first | refine blk_drewN ?_ _ | refine blk_drew ?_ | refine blk_alloc ?_ _)); exact BK222.out) hb); have n1_ := Aside0.mk (below_step (by repeat (first | (with_reducible first | exact HB.out | apply below_alloc | apply pw_below_drewN | apply below_drew1 | refine below_set ?_ GE222.out) | exact HB.out)) hb); clear BK222; clear HB; have BK222 := n0_; have HB := n1_; clear n0_ n1_; (try clear hb); (try clear hb2); (try clear hk); (try clear hi); have hcz58_0 : w57.cell? ⟨gb222, 0, none⟩ = some (.slice A0_0 l0_0.length c0_0) := (blk_cell BK222.out 0).trans rfl; have hcz58_1 : w57.cell? ⟨gb222, 1, none⟩ = some (.int .i64 a0_1) := (blk_cell BK222.out 1).trans rfl; have hfz58_0 := blk_frozen BK222.out 0; have hfz58_1 := blk_frozen BK222.out 1) | (go_at_call 9; (with_reducible refine (tidemilllaw05_small.calls k _ _ l0_0 a0_1 true _ ?side1 ?side2 A3.out).mono ?_); (case side1 => repeat (first | exact (Kd.C_below HR0_0.out HB.out) | (with_reducible refine Kd.C_alloc ?_ _) | (with_reducible refine Kd.C_drewN ?_ _) | (with_reducible refine Kd.C_drew ?_))); (case side2 => exact HC0_0.out); rintro e w59 ⟨rfl, hb⟩; have n0_ := Aside0.mk (blk_below (g := gb222) (o := .cells #[.slice A0_0 l0_0.length c0_0, .int .i64 a0_1] 24 (0, 0)) (by (with_reducible repeat (first | refine blk_drewN ?_ _ | refine blk_drew ?_ | refine blk_alloc ?_ _)); exact BK222.out) hb); have n1_ := Aside0.mk (below_step (by repeat (first | (with_reducible first | exact HB.out | apply below_alloc | apply pw_below_drewN | apply below_drew1 | refine below_set ?_ GE222.out) | exact HB.out)) hb); clear BK222; clear HB; have BK222 := n0_; have HB := n1_; clear n0_ n1_; (try clear hb); (try clear hb2); (try clear hk); (try clear hi); have hcz60_0 : w59.cell? ⟨gb222, 0, none⟩ = some (.slice A0_0 l0_0.length c0_0) := (blk_cell BK222.out 0).trans rfl; have hcz60_1 : w59.cell? ⟨gb222, 1, none⟩ = some (.int .i64 a0_1) := (blk_cell BK222.out 1).trans rfl; have hfz60_0 := blk_frozen BK222.out 0; have hfz60_1 := blk_frozen BK222.out 1) | (go_at_call 10; (with_reducible refine (topo_Check.calls _ _ l0_0 a0_1 t225 t226 _ ?side1 ?side2 A5.out).mono ?_); (case side1 => repeat (first | exact (Kd.C_below HR0_0.out HB.out) | (with_reducible refine Kd.C_alloc ?_ _) | (with_reducible refine Kd.C_drewN ?_ _) | (with_reducible refine Kd.C_drew ?_))); (case side2 => exact HC0_0.out); rintro e w61 ⟨rfl, hb⟩; have n0_ := Aside0.mk (blk_below (g := gb222) (o := .cells #[.slice A0_0 l0_0.length c0_0, .int .i64 a0_1] 24 (0, 0)) (by (with_reducible repeat (first | refine blk_drewN ?_ _ | refine blk_drew ?_ | refine blk_alloc ?_ _)); exact BK222.out) hb); have n1_ := Aside0.mk (below_step (by repeat (first | (with_reducible first | exact HB.out | apply below_alloc | apply pw_below_drewN | apply below_drew1 | refine below_set ?_ GE222.out) | exact HB.out)) hb); clear BK222; clear HB; have BK222 := n0_; have HB := n1_; clear n0_ n1_; (try clear hb); (try clear hb2); (try clear hk); (try clear hi)))
      repeat (go_quiet (first | ((with_reducible refine gate_dst (N := 1) rfl ?_); (try (refine gate_guard (by rfl) ?_; dsimp only)); refine box_event ?hg (N := 1) ?hd (cs := #[.slice A0_0 l0_0.length c0_0, .int .i64 a0_1]) (t := 24) ?hr ?_; (case hd => rfl); (case hg => rfl); (case hr => first | (go_simp; done) | (go_simp; rfl)); intro gb222 hg w56 hbox hb; have n0_ := Aside0.mk (below_step (by repeat (first | (with_reducible first | exact HB.out | apply below_alloc | apply pw_below_drewN | apply below_drew1) | exact HB.out)) hb); have n1_ := Aside0.mk (hbox); have n2_ := Aside0.mk ((by rw [hg]; exact (below_size (by repeat (first | (with_reducible first | exact HB.out | apply below_alloc | apply pw_below_drewN | apply below_drew1) | exact HB.out))) : w.heap.size ≤ gb222)); have n3_ := Aside0.mk ((by rw [hg]; exact (below_size (by repeat (first | (with_reducible first | exact HB.out | apply below_alloc | apply pw_below_drewN | apply below_drew1) | exact HB.out))) : w.heap.size ≤ gb222)); clear HB; have HB := n0_; have BK222 := n1_; have GW222 := n2_; have GE222 := n3_; clear n0_ n1_ n2_ n3_; clear hb hbox hg) | (go_at_call 8; (with_reducible refine (tidemilllaw05_shown.calls k  t223 _ A2.out).mono ?_); rintro e w57 ⟨rfl, hb⟩; have n0_ := Aside0.mk (blk_below (g := gb222) (o := .cells #[.slice A0_0 l0_0.length c0_0, .int .i64 a0_1] 24 (0, 0)) (by (with_reducible repeat (first | refine blk_drewN ?_ _ | refine blk_drew ?_ | refine blk_alloc ?_ _)); exact BK222.out) hb); have n1_ := Aside0.mk (below_step (by repeat (first | (with_reducible first | exact HB.out | apply below_alloc | apply pw_below_drewN | apply below_drew1 | refine below_set ?_ GE222.out) | exact HB.out)) hb); clear BK222; clear HB; have BK222 := n0_; have HB := n1_; clear n0_ n1_; (try clear hb); (try clear hb2); (try clear hk); (try clear hi); have hcz58_0 : w57.cell? ⟨gb222, 0, none⟩ = some (.slice A0_0 l0_0.length c0_0) := (blk_cell BK222.out 0).trans rfl; have hcz58_1 : w57.cell? ⟨gb222, 1, none⟩ = some (.int .i64 a0_1) := (blk_cell BK222.out 1).trans rfl; have hfz58_0 := blk_frozen BK222.out 0; have hfz58_1 := blk_frozen BK222.out 1) | (go_at_call 9; (with_reducible refine (tidemilllaw05_small.calls k _ _ l0_0 a0_1 true _ ?side1 ?side2 A3.out).mono ?_); (case side1 => repeat (first | exact (Kd.C_below HR0_0.out HB.out) | (with_reducible refine Kd.C_alloc ?_ _) | (with_reducible refine Kd.C_drewN ?_ _) | (with_reducible refine Kd.C_drew ?_))); (case side2 => exact HC0_0.out); rintro e w59 ⟨rfl, hb⟩; have n0_ := Aside0.mk (blk_below (g := gb222) (o := .cells #[.slice A0_0 l0_0.length c0_0, .int .i64 a0_1] 24 (0, 0)) (by (with_reducible repeat (first | refine blk_drewN ?_ _ | refine blk_drew ?_ | refine blk_alloc ?_ _)); exact BK222.out) hb); have n1_ := Aside0.mk (below_step (by repeat (first | (with_reducible first | exact HB.out | apply below_alloc | apply pw_below_drewN | apply below_drew1 | refine below_set ?_ GE222.out) | exact HB.out)) hb); clear BK222; clear HB; have BK222 := n0_; have HB := n1_; clear n0_ n1_; (try clear hb); (try clear hb2); (try clear hk); (try clear hi); have hcz60_0 : w59.cell? ⟨gb222, 0, none⟩ = some (.slice A0_0 l0_0.length c0_0) := (blk_cell BK222.out 0).trans rfl; have hcz60_1 : w59.cell? ⟨gb222, 1, none⟩ = some (.int .i64 a0_1) := (blk_cell BK222.out 1).trans rfl; have hfz60_0 := blk_frozen BK222.out 0; have hfz60_1 := blk_frozen BK222.out 1) | (go_at_call 10; (with_reducible refine (topo_Check.calls _ _ l0_0 a0_1 t225 t226 _ ?side1 ?side2 A5.out).mono ?_); (case side1 => repeat (first | exact (Kd.C_below HR0_0.out HB.out) | (with_reducible refine Kd.C_alloc ?_ _) | (with_reducible refine Kd.C_drewN ?_ _) | (with_reducible refine Kd.C_drew ?_))); (case side2 => exact HC0_0.out); rintro e w61 ⟨rfl, hb⟩; have n0_ := Aside0.mk (blk_below (g := gb222) (o := .cells #[.slice A0_0 l0_0.length c0_0, .int .i64 a0_1] 24 (0, 0)) (by (with_reducible repeat (first | refine blk_drewN ?_ _ | refine blk_drew ?_ | refine blk_alloc ?_ _)); exact BK222.out) hb); have n1_ := Aside0.mk (below_step (by repeat (first | (with_reducible first | exact HB.out | apply below_alloc | apply pw_below_drewN | apply below_drew1 | refine below_set ?_ GE222.out) | exact HB.out)) hb); clear BK222; clear HB; have BK222 := n0_; have HB := n1_; clear n0_ n1_; (try clear hb); (try clear hb2); (try clear hk); (try clear hi))); try go_wp2_with (first | ((with_reducible refine gate_dst (N := 1) rfl ?_); (try (refine gate_guard (by rfl) ?_; dsimp only)); refine box_event ?hg (N := 1) ?hd (cs := #[.slice A0_0 l0_0.length c0_0, .int .i64 a0_1]) (t := 24) ?hr ?_; (case hd => rfl); (case hg => rfl); (case hr => first | (go_simp; done) | (go_simp; rfl)); intro gb222 hg w56 hbox hb; have n0_ := Aside0.mk (below_step (by repeat (first | (with_reducible first | exact HB.out | apply below_alloc | apply pw_below_drewN | apply below_drew1) | exact HB.out)) hb); have n1_ := Aside0.mk (hbox); have n2_ := Aside0.mk ((by rw [hg]; exact (below_size (by repeat (first | (with_reducible first | exact HB.out | apply below_alloc | apply pw_below_drewN | apply below_drew1) | exact HB.out))) : w.heap.size ≤ gb222)); have n3_ := Aside0.mk ((by rw [hg]; exact (below_size (by repeat (first | (with_reducible first | exact HB.out | apply below_alloc | apply pw_below_drewN | apply below_drew1) | exact HB.out))) : w.heap.size ≤ gb222)); clear HB; have HB := n0_; have BK222 := n1_; have GW222 := n2_; have GE222 := n3_; clear n0_ n1_ n2_ n3_; clear hb hbox hg) | (go_at_call 8; (with_reducible refine (tidemilllaw05_shown.calls k  t223 _ A2.out).mono ?_); rintro e w57 ⟨rfl, hb⟩; have n0_ := Aside0.mk (blk_below (g := gb222) (o := .cells #[.slice A0_0 l0_0.length c0_0, .int .i64 a0_1] 24 (0, 0)) (by (with_reducible repeat (first | refine blk_drewN ?_ _ | refine blk_drew ?_ | refine blk_alloc ?_ _)); exact BK222.out) hb); have n1_ := Aside0.mk (below_step (by repeat (first | (with_reducible first | exact HB.out | apply below_alloc | apply pw_below_drewN | apply below_drew1 | refine below_set ?_ GE222.out) | exact HB.out)) hb); clear BK222; clear HB; have BK222 := n0_; have HB := n1_; clear n0_ n1_; (try clear hb); (try clear hb2); (try clear hk); (try clear hi); have hcz58_0 : w57.cell? ⟨gb222, 0, none⟩ = some (.slice A0_0 l0_0.length c0_0) := (blk_cell BK222.out 0).trans rfl; have hcz58_1 : w57.cell? ⟨gb222, 1, none⟩ = some (.int .i64 a0_1) := (blk_cell BK222.out 1).trans rfl; have hfz58_0 := blk_frozen BK222.out 0; have hfz58_1 := blk_frozen BK222.out 1) | (go_at_call 9; (with_reducible refine (tidemilllaw05_small.calls k _ _ l0_0 a0_1 true _ ?side1 ?side2 A3.out).mono ?_); (case side1 => repeat (first | exact (Kd.C_below HR0_0.out HB.out) | (with_reducible refine Kd.C_alloc ?_ _) | (with_reducible refine Kd.C_drewN ?_ _) | (with_reducible refine Kd.C_drew ?_))); (case side2 => exact HC0_0.out); rintro e w59 ⟨rfl, hb⟩; have n0_ := Aside0.mk (blk_below (g := gb222) (o := .cells #[.slice A0_0 l0_0.length c0_0, .int .i64 a0_1] 24 (0, 0)) (by (with_reducible repeat (first | refine blk_drewN ?_ _ | refine blk_drew ?_ | refine blk_alloc ?_ _)); exact BK222.out) hb); have n1_ := Aside0.mk (below_step (by repeat (first | (with_reducible first | exact HB.out | apply below_alloc | apply pw_below_drewN | apply below_drew1 | refine below_set ?_ GE222.out) | exact HB.out)) hb); clear BK222; clear HB; have BK222 := n0_; have HB := n1_; clear n0_ n1_; (try clear hb); (try clear hb2); (try clear hk); (try clear hi); have hcz60_0 : w59.cell? ⟨gb222, 0, none⟩ = some (.slice A0_0 l0_0.length c0_0) := (blk_cell BK222.out 0).trans rfl; have hcz60_1 : w59.cell? ⟨gb222, 1, none⟩ = some (.int .i64 a0_1) := (blk_cell BK222.out 1).trans rfl; have hfz60_0 := blk_frozen BK222.out 0; have hfz60_1 := blk_frozen BK222.out 1) | (go_at_call 10; (with_reducible refine (topo_Check.calls _ _ l0_0 a0_1 t225 t226 _ ?side1 ?side2 A5.out).mono ?_); (case side1 => repeat (first | exact (Kd.C_below HR0_0.out HB.out) | (with_reducible refine Kd.C_alloc ?_ _) | (with_reducible refine Kd.C_drewN ?_ _) | (with_reducible refine Kd.C_drew ?_))); (case side2 => exact HC0_0.out); rintro e w61 ⟨rfl, hb⟩; have n0_ := Aside0.mk (blk_below (g := gb222) (o := .cells #[.slice A0_0 l0_0.length c0_0, .int .i64 a0_1] 24 (0, 0)) (by (with_reducible repeat (first | refine blk_drewN ?_ _ | refine blk_drew ?_ | refine blk_alloc ?_ _)); exact BK222.out) hb); have n1_ := Aside0.mk (below_step (by repeat (first | (with_reducible first | exact HB.out | apply below_alloc | apply pw_below_drewN | apply below_drew1 | refine below_set ?_ GE222.out) | exact HB.out)) hb); clear BK222; clear HB; have BK222 := n0_; have HB := n1_; clear n0_ n1_; (try clear hb); (try clear hb2); (try clear hk); (try clear hi))))
      go_ret
      exact ⟨by first | rfl | (simp [errW_none, errW_some] <;> rfl) | (simp [*, errW_none, errW_some] <;> rfl), by repeat (first | (with_reducible first | exact HB.out | apply below_alloc | apply pw_below_drewN | apply below_drew1 | refine below_set ?_ GE222.out) | exact HB.out)⟩
  · replace c4 := Bool.eq_false_iff.mpr c4
    subst c4
    have H1 : (some t223) = some r := by rw [if_neg (show ¬ (false = true) by decide)] at H; exact H
    clear H
    have H := H1
    clear H1
    obtain rfl := Option.some.inj H
    go_enter Try.func4, Try.ntmps4
    go_wp2_with (first | ((with_reducible refine gate_dst (N := 1) rfl ?_); (try (refine gate_guard (by rfl) ?_; dsimp only)); refine box_event ?hg (N := 1) ?hd (cs := #[.slice A0_0 l0_0.length c0_0, .int .i64 a0_1]) (t := 24) ?hr ?_; (case hd => rfl); (case hg => rfl); (case hr => first | (go_simp; done) | (go_simp; rfl)); intro gb222 hg w62 hbox hb; have n0_ := Aside0.mk (below_step (by repeat (first | (with_reducible first | exact HB.out | apply below_alloc | apply pw_below_drewN | apply below_drew1) | exact HB.out)) hb); have n1_ := Aside0.mk (hbox); have n2_ := Aside0.mk ((by rw [hg]; exact (below_size (by repeat (first | (with_reducible first | exact HB.out | apply below_alloc | apply pw_below_drewN | apply below_drew1) | exact HB.out))) : w.heap.size ≤ gb222)); have n3_ := Aside0.mk ((by rw [hg]; exact (below_size (by repeat (first | (with_reducible first | exact HB.out | apply below_alloc | apply pw_below_drewN | apply below_drew1) | exact HB.out))) : w.heap.size ≤ gb222)); clear HB; have HB := n0_; have BK222 := n1_; have GW222 := n2_; have GE222 := n3_; clear n0_ n1_ n2_ n3_; clear hb hbox hg) | (go_at_call 8; (with_reducible refine (tidemilllaw05_shown.calls k  t223 _ A2.out).mono ?_); rintro e w63 ⟨rfl, hb⟩; have n0_ := Aside0.mk (blk_below (g := gb222) (o := .cells #[.slice A0_0 l0_0.length c0_0, .int .i64 a0_1] 24 (0, 0)) (by (with_reducible repeat (first | refine blk_drewN ?_ _ | refine blk_drew ?_ | refine blk_alloc ?_ _)); exact BK222.out) hb); have n1_ := Aside0.mk (below_step (by repeat (first | (with_reducible first | exact HB.out | apply below_alloc | apply pw_below_drewN | apply below_drew1 | refine below_set ?_ GE222.out) | exact HB.out)) hb); clear BK222; clear HB; have BK222 := n0_; have HB := n1_; clear n0_ n1_; (try clear hb); (try clear hb2); (try clear hk); (try clear hi); have hcz64_0 : w63.cell? ⟨gb222, 0, none⟩ = some (.slice A0_0 l0_0.length c0_0) := (blk_cell BK222.out 0).trans rfl; have hcz64_1 : w63.cell? ⟨gb222, 1, none⟩ = some (.int .i64 a0_1) := (blk_cell BK222.out 1).trans rfl; have hfz64_0 := blk_frozen BK222.out 0; have hfz64_1 := blk_frozen BK222.out 1) | (go_at_call 9; (with_reducible refine (tidemilllaw05_small.calls k _ _ l0_0 a0_1 false _ ?side1 ?side2 A3.out).mono ?_); (case side1 => repeat (first | exact (Kd.C_below HR0_0.out HB.out) | (with_reducible refine Kd.C_alloc ?_ _) | (with_reducible refine Kd.C_drewN ?_ _) | (with_reducible refine Kd.C_drew ?_))); (case side2 => exact HC0_0.out); rintro e w65 ⟨rfl, hb⟩; have n0_ := Aside0.mk (blk_below (g := gb222) (o := .cells #[.slice A0_0 l0_0.length c0_0, .int .i64 a0_1] 24 (0, 0)) (by (with_reducible repeat (first | refine blk_drewN ?_ _ | refine blk_drew ?_ | refine blk_alloc ?_ _)); exact BK222.out) hb); have n1_ := Aside0.mk (below_step (by repeat (first | (with_reducible first | exact HB.out | apply below_alloc | apply pw_below_drewN | apply below_drew1 | refine below_set ?_ GE222.out) | exact HB.out)) hb); clear BK222; clear HB; have BK222 := n0_; have HB := n1_; clear n0_ n1_; (try clear hb); (try clear hb2); (try clear hk); (try clear hi)))
    repeat (go_quiet (first | ((with_reducible refine gate_dst (N := 1) rfl ?_); (try (refine gate_guard (by rfl) ?_; dsimp only)); refine box_event ?hg (N := 1) ?hd (cs := #[.slice A0_0 l0_0.length c0_0, .int .i64 a0_1]) (t := 24) ?hr ?_; (case hd => rfl); (case hg => rfl); (case hr => first | (go_simp; done) | (go_simp; rfl)); intro gb222 hg w62 hbox hb; have n0_ := Aside0.mk (below_step (by repeat (first | (with_reducible first | exact HB.out | apply below_alloc | apply pw_below_drewN | apply below_drew1) | exact HB.out)) hb); have n1_ := Aside0.mk (hbox); have n2_ := Aside0.mk ((by rw [hg]; exact (below_size (by repeat (first | (with_reducible first | exact HB.out | apply below_alloc | apply pw_below_drewN | apply below_drew1) | exact HB.out))) : w.heap.size ≤ gb222)); have n3_ := Aside0.mk ((by rw [hg]; exact (below_size (by repeat (first | (with_reducible first | exact HB.out | apply below_alloc | apply pw_below_drewN | apply below_drew1) | exact HB.out))) : w.heap.size ≤ gb222)); clear HB; have HB := n0_; have BK222 := n1_; have GW222 := n2_; have GE222 := n3_; clear n0_ n1_ n2_ n3_; clear hb hbox hg) | (go_at_call 8; (with_reducible refine (tidemilllaw05_shown.calls k  t223 _ A2.out).mono ?_); rintro e w63 ⟨rfl, hb⟩; have n0_ := Aside0.mk (blk_below (g := gb222) (o := .cells #[.slice A0_0 l0_0.length c0_0, .int .i64 a0_1] 24 (0, 0)) (by (with_reducible repeat (first | refine blk_drewN ?_ _ | refine blk_drew ?_ | refine blk_alloc ?_ _)); exact BK222.out) hb); have n1_ := Aside0.mk (below_step (by repeat (first | (with_reducible first | exact HB.out | apply below_alloc | apply pw_below_drewN | apply below_drew1 | refine below_set ?_ GE222.out) | exact HB.out)) hb); clear BK222; clear HB; have BK222 := n0_; have HB := n1_; clear n0_ n1_; (try clear hb); (try clear hb2); (try clear hk); (try clear hi); have hcz64_0 : w63.cell? ⟨gb222, 0, none⟩ = some (.slice A0_0 l0_0.length c0_0) := (blk_cell BK222.out 0).trans rfl; have hcz64_1 : w63.cell? ⟨gb222, 1, none⟩ = some (.int .i64 a0_1) := (blk_cell BK222.out 1).trans rfl; have hfz64_0 := blk_frozen BK222.out 0; have hfz64_1 := blk_frozen BK222.out 1) | (go_at_call 9; (with_reducible refine (tidemilllaw05_small.calls k _ _ l0_0 a0_1 false _ ?side1 ?side2 A3.out).mono ?_); (case side1 => repeat (first | exact (Kd.C_below HR0_0.out HB.out) | (with_reducible refine Kd.C_alloc ?_ _) | (with_reducible refine Kd.C_drewN ?_ _) | (with_reducible refine Kd.C_drew ?_))); (case side2 => exact HC0_0.out); rintro e w65 ⟨rfl, hb⟩; have n0_ := Aside0.mk (blk_below (g := gb222) (o := .cells #[.slice A0_0 l0_0.length c0_0, .int .i64 a0_1] 24 (0, 0)) (by (with_reducible repeat (first | refine blk_drewN ?_ _ | refine blk_drew ?_ | refine blk_alloc ?_ _)); exact BK222.out) hb); have n1_ := Aside0.mk (below_step (by repeat (first | (with_reducible first | exact HB.out | apply below_alloc | apply pw_below_drewN | apply below_drew1 | refine below_set ?_ GE222.out) | exact HB.out)) hb); clear BK222; clear HB; have BK222 := n0_; have HB := n1_; clear n0_ n1_; (try clear hb); (try clear hb2); (try clear hk); (try clear hi))); try go_wp2_with (first | ((with_reducible refine gate_dst (N := 1) rfl ?_); (try (refine gate_guard (by rfl) ?_; dsimp only)); refine box_event ?hg (N := 1) ?hd (cs := #[.slice A0_0 l0_0.length c0_0, .int .i64 a0_1]) (t := 24) ?hr ?_; (case hd => rfl); (case hg => rfl); (case hr => first | (go_simp; done) | (go_simp; rfl)); intro gb222 hg w62 hbox hb; have n0_ := Aside0.mk (below_step (by repeat (first | (with_reducible first | exact HB.out | apply below_alloc | apply pw_below_drewN | apply below_drew1) | exact HB.out)) hb); have n1_ := Aside0.mk (hbox); have n2_ := Aside0.mk ((by rw [hg]; exact (below_size (by repeat (first | (with_reducible first | exact HB.out | apply below_alloc | apply pw_below_drewN | apply below_drew1) | exact HB.out))) : w.heap.size ≤ gb222)); have n3_ := Aside0.mk ((by rw [hg]; exact (below_size (by repeat (first | (with_reducible first | exact HB.out | apply below_alloc | apply pw_below_drewN | apply below_drew1) | exact HB.out))) : w.heap.size ≤ gb222)); clear HB; have HB := n0_; have BK222 := n1_; have GW222 := n2_; have GE222 := n3_; clear n0_ n1_ n2_ n3_; clear hb hbox hg) | (go_at_call 8; (with_reducible refine (tidemilllaw05_shown.calls k  t223 _ A2.out).mono ?_); rintro e w63 ⟨rfl, hb⟩; have n0_ := Aside0.mk (blk_below (g := gb222) (o := .cells #[.slice A0_0 l0_0.length c0_0, .int .i64 a0_1] 24 (0, 0)) (by (with_reducible repeat (first | refine blk_drewN ?_ _ | refine blk_drew ?_ | refine blk_alloc ?_ _)); exact BK222.out) hb); have n1_ := Aside0.mk (below_step (by repeat (first | (with_reducible first | exact HB.out | apply below_alloc | apply pw_below_drewN | apply below_drew1 | refine below_set ?_ GE222.out) | exact HB.out)) hb); clear BK222; clear HB; have BK222 := n0_; have HB := n1_; clear n0_ n1_; (try clear hb); (try clear hb2); (try clear hk); (try clear hi); have hcz64_0 : w63.cell? ⟨gb222, 0, none⟩ = some (.slice A0_0 l0_0.length c0_0) := (blk_cell BK222.out 0).trans rfl; have hcz64_1 : w63.cell? ⟨gb222, 1, none⟩ = some (.int .i64 a0_1) := (blk_cell BK222.out 1).trans rfl; have hfz64_0 := blk_frozen BK222.out 0; have hfz64_1 := blk_frozen BK222.out 1) | (go_at_call 9; (with_reducible refine (tidemilllaw05_small.calls k _ _ l0_0 a0_1 false _ ?side1 ?side2 A3.out).mono ?_); (case side1 => repeat (first | exact (Kd.C_below HR0_0.out HB.out) | (with_reducible refine Kd.C_alloc ?_ _) | (with_reducible refine Kd.C_drewN ?_ _) | (with_reducible refine Kd.C_drew ?_))); (case side2 => exact HC0_0.out); rintro e w65 ⟨rfl, hb⟩; have n0_ := Aside0.mk (blk_below (g := gb222) (o := .cells #[.slice A0_0 l0_0.length c0_0, .int .i64 a0_1] 24 (0, 0)) (by (with_reducible repeat (first | refine blk_drewN ?_ _ | refine blk_drew ?_ | refine blk_alloc ?_ _)); exact BK222.out) hb); have n1_ := Aside0.mk (below_step (by repeat (first | (with_reducible first | exact HB.out | apply below_alloc | apply pw_below_drewN | apply below_drew1 | refine below_set ?_ GE222.out) | exact HB.out)) hb); clear BK222; clear HB; have BK222 := n0_; have HB := n1_; clear n0_ n1_; (try clear hb); (try clear hb2); (try clear hk); (try clear hi))))
    go_ret
    exact ⟨by first | rfl | (simp [errW_none, errW_some] <;> rfl) | (simp [*, errW_none, errW_some] <;> rfl), by repeat (first | (with_reducible first | exact HB.out | apply below_alloc | apply pw_below_drewN | apply below_drew1 | refine below_set ?_ GE222.out) | exact HB.out)⟩

end Go.Proofs.Yteanncfmaomhaaa.Ex
