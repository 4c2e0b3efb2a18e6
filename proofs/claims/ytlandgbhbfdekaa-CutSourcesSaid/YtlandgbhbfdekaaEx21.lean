-- Written by a program of this work (wip/given.py) out of the translation; Lean checks it.
import Derived.Test.YtlandgbhbfdekaaEx0
import Derived.Test.YtlandgbhbfdekaaWKept
import Derived.Test.YtlandgbhbfdekaaWN
import Derived.Test.YtlandgbhbfdekaaWShare
import Derived.Test.YtlandgbhbfdekaaWRepsOne
import Derived.Test.YtlandgbhbfdekaaWGuard
import Derived.Test.YtlandgbhbfdekaaWApart
import Derived.Test.YtlandgbhbfdekaaEx4
import Derived.Test.YtlandgbhbfdekaaEx5
import Derived.Test.YtlandgbhbfdekaaCtInp
import Derived.Test.YtlandgbhbfdekaaCtParts
namespace Go.Proofs.Ytlandgbhbfdekaa.Ex
open Go.RowKit Go.Proofs.YtlandgbhbfdekaaW.PrintWords Go.Proofs.YtlandgbhbfdekaaW.PrintLast Go.Proofs.YtlandgbhbfdekaaW.PrintMore
attribute [local go_sem] max2_int min2_int max_two min_two max_three min_three max_four min_four   -- for this text's walks alone
set_option linter.unusedVariables false
set_option linter.unusedSimpArgs false

/-! ### tidemilllaw16_CutSources: function 4 -/
mutual
def tidemilllaw16_CutSources.l0 : Nat → Bool → Bool → Int → Int → Int → Int → List (S37) → Int → Option (Bool)
  | 0, _, _, _, _, _, _, _, _ => none
  | k + 1, x1, x5, x6, x9, x367000, x367001, x371000, x371001 => if x9 < x6 then (if x371000.length < 1759218604441 then (tidemilllaw16_CutSources.l0 k x1 x5 x6 (wrap64 (x9 + 1)) x367000 x367001 (x371000 ++ [(⟨2, (([x9] : List Int)), (⟨x367000, x367001, ([] : List (S34))⟩ : S34), 0⟩ : S37)]) x371001) else (none)) else (if x1 = true then (if x371000.length < 1759218604441 then (tidemilllaw16_CutSources.j1 k x1 x5 x6 (x371000 ++ [(⟨5, (([x6] : List Int)), (⟨x367000, x367001, ([] : List (S34))⟩ : S34), 0⟩ : S37)]) x371001) else (none)) else (tidemilllaw16_CutSources.j1 k x1 x5 x6 x371000 x371001))
def tidemilllaw16_CutSources.j1 : Nat → Bool → Bool → Int → List (S37) → Int → Option (Bool)
  | 0, _, _, _, _, _ => none
  | k + 1, x1, x5, x6, x371000, x371001 => if x371000.length < 1759218604441 then ((some (x371000 ++ [(⟨10, (([wrap64 ((x371000.length : Int) - 1)] : List Int)), (⟨0, 0, ([] : List (S34))⟩ : S34), 0⟩ : S37)] : List (S37))).bind fun y386 => ((cut_Parts.f y386 x371001).bind fun bt389 => (if x1 = true then (tidemilllaw16_CutSources.j2 k x1 x5 x6 bt389.1 bt389.2 2 y386 x371001) else (tidemilllaw16_CutSources.j2 k x1 x5 x6 bt389.1 bt389.2 1 y386 x371001)))) else (none)
def tidemilllaw16_CutSources.j2 : Nat → Bool → Bool → Int → List Int → Int → Int → List (S37) → Int → Option (Bool)
  | 0, _, _, _, _, _, _, _, _ => none
  | k + 1, x1, x5, x6, x10, x11, x12, x371000, x371001 => if x11 = 0 then (if (x10.length : Int) = (x371000.length : Int) then ((cut_Tasks.f x371000 x371001).bind fun t393 => (if t393 = x12 then (if 0 < (x10.length : Int) then (if (rd x10 0) = 0 then (if 0 ≤ (wrap64 ((x10.length : Int) - 1)) then (if (wrap64 ((x10.length : Int) - 1)) < (x10.length : Int) then (tidemilllaw16_CutSources.j3 k x1 x5 x6 ((rd x10 (wrap64 ((x10.length : Int) - 1))) != (wrap64 (x12 - 1))) x371000 x371001) else (none)) else (none)) else (tidemilllaw16_CutSources.j3 k x1 x5 x6 true x371000 x371001)) else (none)) else (tidemilllaw16_CutSources.j3 k x1 x5 x6 true x371000 x371001))) else (tidemilllaw16_CutSources.j3 k x1 x5 x6 true x371000 x371001)) else (tidemilllaw16_CutSources.j3 k x1 x5 x6 true x371000 x371001)
def tidemilllaw16_CutSources.j3 : Nat → Bool → Bool → Int → Bool → List (S37) → Int → Option (Bool)
  | 0, _, _, _, _, _, _ => none
  | k + 1, x1, x5, x6, x94, x371000, x371001 => if x94 = true then (some false) else (if x5 = true then ((cut_Inputs.f x371000 x371001 0).bind fun t396 => ((tidemillref01_Same.f k t396 (([0] : List Int))).bind fun t402 => (if t402 = true then (if x1 = true then ((cut_Inputs.f x371000 x371001 1).bind fun t403 => ((tidemillref01_Same.f k t403 (([wrap64 (x6 + 1)] : List Int))).bind fun t409 => (some t409))) else (some true)) else (some false)))) else (some false))
end
def tidemilllaw16_CutSources.f (k : Nat) (a0 : Int) (a1 : Bool) : Option (Bool) := (tidemilllaw16_shown.f k).bind fun t365 => (tidemilllaw16_CutSources.l0 k a1 t365 (wrap64 (Int.tmod a0 8)) 0 3 0 (([(⟨1, ([] : List Int), (⟨0, 0, ([] : List (S34))⟩ : S34), 0⟩ : S37)] : List (S37))) 1)
theorem tidemilllaw16_CutSources.mono_l : ∀ k, (∀ y0 y1 y2 y3 y4 y5 y6 y7, LeO (tidemilllaw16_CutSources.l0 k y0 y1 y2 y3 y4 y5 y6 y7) (tidemilllaw16_CutSources.l0 (k + 1) y0 y1 y2 y3 y4 y5 y6 y7)) ∧ (∀ y0 y1 y2 y3 y4, LeO (tidemilllaw16_CutSources.j1 k y0 y1 y2 y3 y4) (tidemilllaw16_CutSources.j1 (k + 1) y0 y1 y2 y3 y4)) ∧ (∀ y0 y1 y2 y3 y4 y5 y6 y7, LeO (tidemilllaw16_CutSources.j2 k y0 y1 y2 y3 y4 y5 y6 y7) (tidemilllaw16_CutSources.j2 (k + 1) y0 y1 y2 y3 y4 y5 y6 y7)) ∧ (∀ y0 y1 y2 y3 y4 y5, LeO (tidemilllaw16_CutSources.j3 k y0 y1 y2 y3 y4 y5) (tidemilllaw16_CutSources.j3 (k + 1) y0 y1 y2 y3 y4 y5))
  | 0 => ⟨fun _ _ _ _ _ _ _ _ r h => by simp [tidemilllaw16_CutSources.l0] at h, fun _ _ _ _ _ r h => by simp [tidemilllaw16_CutSources.j1] at h, fun _ _ _ _ _ _ _ _ r h => by simp [tidemilllaw16_CutSources.j2] at h, fun _ _ _ _ _ _ r h => by simp [tidemilllaw16_CutSources.j3] at h⟩
  | k + 1 => by
    obtain ⟨ih0, ih1, ih2, ih3⟩ := tidemilllaw16_CutSources.mono_l k
    refine ⟨?_, ?_, ?_, ?_⟩
    · intro y0 y1 y2 y3 y4 y5 y6 y7
      unfold tidemilllaw16_CutSources.l0
      repeat' first
      | (with_reducible exact ih0 _ _ _ _ _ _ _ _)
      | (with_reducible exact ih1 _ _ _ _ _)
      | (with_reducible exact ih2 _ _ _ _ _ _ _ _)
      | (with_reducible exact ih3 _ _ _ _ _ _)
      | (with_reducible exact tidemilllaw16_shown.mono _)
      | (with_reducible exact tidemillref01_Same.mono _ _ _)
      | (with_reducible exact LeO.refl _)
      | (with_reducible exact LeO.none _)
      | (with_reducible refine LeO.ite ?_ ?_)
      | (with_reducible refine LeO.bind ?_ (fun _ => ?_))
      | exact ih0 _ _ _ _ _ _ _ _
      | exact ih1 _ _ _ _ _
      | exact ih2 _ _ _ _ _ _ _ _
      | exact ih3 _ _ _ _ _ _
      | exact tidemilllaw16_shown.mono _
      | exact tidemillref01_Same.mono _ _ _
      | exact LeO.none _
      | refine LeO.ite ?_ ?_
      | refine LeO.bind ?_ (fun _ => ?_)
    · intro y0 y1 y2 y3 y4
      unfold tidemilllaw16_CutSources.j1
      repeat' first
      | (with_reducible exact ih0 _ _ _ _ _ _ _ _)
      | (with_reducible exact ih1 _ _ _ _ _)
      | (with_reducible exact ih2 _ _ _ _ _ _ _ _)
      | (with_reducible exact ih3 _ _ _ _ _ _)
      | (with_reducible exact tidemilllaw16_shown.mono _)
      | (with_reducible exact tidemillref01_Same.mono _ _ _)
      | (with_reducible exact LeO.refl _)
      | (with_reducible exact LeO.none _)
      | (with_reducible refine LeO.ite ?_ ?_)
      | (with_reducible refine LeO.bind ?_ (fun _ => ?_))
      | exact ih0 _ _ _ _ _ _ _ _
      | exact ih1 _ _ _ _ _
      | exact ih2 _ _ _ _ _ _ _ _
      | exact ih3 _ _ _ _ _ _
      | exact tidemilllaw16_shown.mono _
      | exact tidemillref01_Same.mono _ _ _
      | exact LeO.none _
      | refine LeO.ite ?_ ?_
      | refine LeO.bind ?_ (fun _ => ?_)
    · intro y0 y1 y2 y3 y4 y5 y6 y7
      unfold tidemilllaw16_CutSources.j2
      repeat' first
      | (with_reducible exact ih0 _ _ _ _ _ _ _ _)
      | (with_reducible exact ih1 _ _ _ _ _)
      | (with_reducible exact ih2 _ _ _ _ _ _ _ _)
      | (with_reducible exact ih3 _ _ _ _ _ _)
      | (with_reducible exact tidemilllaw16_shown.mono _)
      | (with_reducible exact tidemillref01_Same.mono _ _ _)
      | (with_reducible exact LeO.refl _)
      | (with_reducible exact LeO.none _)
      | (with_reducible refine LeO.ite ?_ ?_)
      | (with_reducible refine LeO.bind ?_ (fun _ => ?_))
      | exact ih0 _ _ _ _ _ _ _ _
      | exact ih1 _ _ _ _ _
      | exact ih2 _ _ _ _ _ _ _ _
      | exact ih3 _ _ _ _ _ _
      | exact tidemilllaw16_shown.mono _
      | exact tidemillref01_Same.mono _ _ _
      | exact LeO.none _
      | refine LeO.ite ?_ ?_
      | refine LeO.bind ?_ (fun _ => ?_)
    · intro y0 y1 y2 y3 y4 y5
      unfold tidemilllaw16_CutSources.j3
      repeat' first
      | (with_reducible exact ih0 _ _ _ _ _ _ _ _)
      | (with_reducible exact ih1 _ _ _ _ _)
      | (with_reducible exact ih2 _ _ _ _ _ _ _ _)
      | (with_reducible exact ih3 _ _ _ _ _ _)
      | (with_reducible exact tidemilllaw16_shown.mono _)
      | (with_reducible exact tidemillref01_Same.mono _ _ _)
      | (with_reducible exact LeO.refl _)
      | (with_reducible exact LeO.none _)
      | (with_reducible refine LeO.ite ?_ ?_)
      | (with_reducible refine LeO.bind ?_ (fun _ => ?_))
      | exact ih0 _ _ _ _ _ _ _ _
      | exact ih1 _ _ _ _ _
      | exact ih2 _ _ _ _ _ _ _ _
      | exact ih3 _ _ _ _ _ _
      | exact tidemilllaw16_shown.mono _
      | exact tidemillref01_Same.mono _ _ _
      | exact LeO.none _
      | refine LeO.ite ?_ ?_
      | refine LeO.bind ?_ (fun _ => ?_)
theorem tidemilllaw16_CutSources.mono : ∀ a0 a1 k, LeO (tidemilllaw16_CutSources.f k a0 a1) (tidemilllaw16_CutSources.f (k + 1) a0 a1) := by
  intro a0 a1 k
  obtain ⟨ih0, ih1, ih2, ih3⟩ := tidemilllaw16_CutSources.mono_l k
  unfold tidemilllaw16_CutSources.f
  repeat' first
      | (with_reducible exact ih0 _ _ _ _ _ _ _ _)
      | (with_reducible exact ih1 _ _ _ _ _)
      | (with_reducible exact ih2 _ _ _ _ _ _ _ _)
      | (with_reducible exact ih3 _ _ _ _ _ _)
      | (with_reducible exact tidemilllaw16_shown.mono _)
      | (with_reducible exact tidemillref01_Same.mono _ _ _)
      | (with_reducible exact LeO.refl _)
      | (with_reducible exact LeO.none _)
      | (with_reducible refine LeO.ite ?_ ?_)
      | (with_reducible refine LeO.bind ?_ (fun _ => ?_))
      | exact ih0 _ _ _ _ _ _ _ _
      | exact ih1 _ _ _ _ _
      | exact ih2 _ _ _ _ _ _ _ _
      | exact ih3 _ _ _ _ _ _
      | exact tidemilllaw16_shown.mono _
      | exact tidemillref01_Same.mono _ _ _
      | exact LeO.none _
      | refine LeO.ite ?_ ?_
      | refine LeO.bind ?_ (fun _ => ?_)
set_option maxHeartbeats 8000000 in
set_option maxRecDepth 100000 in
theorem tidemilllaw16_CutSources.calls (k : Nat) (a0 : Int) (a1 : Bool) (r : Bool) (w : World) (h : tidemilllaw16_CutSources.f k a0 a1 = some r) :
    Calls Try.prog 4 #[.int .u8 a0, .bool a1] w fun e w' => e = .returned (.bool r) ∧ Below w.heap.size w w' := by
  have hu34 := Try.underlying34
  have hu37 := Try.underlying37
  have hu24 := Try.underlying24
  have HB := Aside0.mk (Below.refl w.heap.size w)
  have H : ((tidemilllaw16_shown.f k).bind fun t365 => (tidemilllaw16_CutSources.l0 k a1 t365 (wrap64 (Int.tmod a0 8)) 0 3 0 (([(⟨1, ([] : List Int), (⟨0, 0, ([] : List (S34))⟩ : S34), 0⟩ : S37)] : List (S37))) 1)) = some r := h
  clear h
  replace H := Option.bind_eq_some_iff.mp H
  obtain ⟨t365, A30, H⟩ := H
  replace H : (tidemilllaw16_CutSources.l0 k a1 t365 (wrap64 (Int.tmod a0 8)) 0 3 0 (([(⟨1, ([] : List Int), (⟨0, 0, ([] : List (S34))⟩ : S34), 0⟩ : S37)] : List (S37))) 1) = some r := H
  have A3 := Aside0.mk A30
  clear A30
  obtain ⟨y367, hy367⟩ : ∃ y_ : List (S37), y_ = (([(⟨1, ([] : List Int), (⟨0, 0, ([] : List (S34))⟩ : S34), 0⟩ : S37)] : List (S37))) := ⟨_, rfl⟩
  replace H : (tidemilllaw16_CutSources.l0 k a1 t365 (wrap64 (Int.tmod a0 8)) 0 3 0 y367 1) = some r := by first | (rw [hy367]; with_reducible exact H) | (have H2_ := (Option.bind_some _ _).symm.trans H; rw [hy367]; with_reducible exact H2_) | (have H2_ := (Option.bind_some _ _).symm.trans H; with_reducible exact H2_) | with_reducible exact H | (rw [hy367]; exact H) | exact H
  have Ny367 := Aside0.mk hy367
  clear hy367
  have H' := Aside0.mk H
  clear H
  go_enter Try.func4, Try.ntmps4
  go_wp2_with (first | ((with_reducible refine gate_callee (f := 9) rfl ?_); refine goesL_ (some 13) rfl rfl Try.func9 (by kernel_rfl) rfl #[] rfl (by (try simp only [List.map_toArray, List.map_cons, List.map_nil]); first | done | rfl | (simp only [List.length_drop, List.length_take]; rfl)) ?_; (with_reducible refine (tidemilllaw16_shown.calls k  t365 _ A3.out).mono ?_); rintro e w4 ⟨rfl, hb⟩; refine ⟨_, rfl, ?_⟩; have n0_ := Aside0.mk (below_step (by repeat (first | (with_reducible first | exact HB.out | apply below_alloc | apply pw_below_drewN | apply below_drew1) | exact HB.out)) hb); clear HB; have HB := n0_; clear n0_; (try clear hb); (try clear hb2); (try clear hk); (try clear hi)) | ((with_reducible refine gate_dst (N := 7) rfl ?_); (try (refine gate_guard (by rfl) ?_; dsimp only)); refine box_event ?hg (N := 7) ?hd (cs := #[.int .i64 0, .int .i64 0, .slice none 0 0]) (t := 34) ?hr ?_; (case hd => rfl); (case hg => rfl); (case hr => first | (go_simp; done) | (go_simp; rfl)); intro gb366 hg w5 hbox hb; have n0_ := Aside0.mk (below_step (by repeat (first | (with_reducible first | exact HB.out | apply below_alloc | apply pw_below_drewN | apply below_drew1) | exact HB.out)) hb); have n1_ := Aside0.mk (hbox); have n2_ := Aside0.mk ((by rw [hg]; exact (below_size (by repeat (first | (with_reducible first | exact HB.out | apply below_alloc | apply pw_below_drewN | apply below_drew1) | exact HB.out))) : w.heap.size ≤ gb366)); have n3_ := Aside0.mk ((by rw [hg]; exact (below_size (by repeat (first | (with_reducible first | exact HB.out | apply below_alloc | apply pw_below_drewN | apply below_drew1) | exact HB.out))) : w.heap.size ≤ gb366)); clear HB; have HB := n0_; have BK366 := n1_; have GW366 := n2_; have GE366 := n3_; clear n0_ n1_ n2_ n3_; clear hb hbox hg; have hcz6_0 : w5.cell? ⟨gb366, 0, none⟩ = some (.int .i64 0) := (blk_cell BK366.out 0).trans rfl; have hcz6_1 : w5.cell? ⟨gb366, 1, none⟩ = some (.int .i64 0) := (blk_cell BK366.out 1).trans rfl; have hcz6_2 : w5.cell? ⟨gb366, 2, none⟩ = some (.slice none 0 0) := (blk_cell BK366.out 2).trans rfl; have hfz6_0 := blk_frozen BK366.out 0; have hfz6_1 := blk_frozen BK366.out 1; have hfz6_2 := blk_frozen BK366.out 2) | ((with_reducible refine gate_dst (N := 19) rfl ?_); (try (refine gate_guard (by rfl) ?_; dsimp only)); refine Kd.R_lit k37 _ 37 ?hg (N := 19) ?hd (xs := ([(⟨1, ([] : List Int), (⟨0, 0, ([] : List (S34))⟩ : S34), 0⟩ : S37)] : List (S37))) (inner := [.int .i64 1, .slice none 0 0, .int .i64 0, .int .i64 0, .slice none 0 0, .int .i64 0]) (ok := fun _ => True) (okp := fun _ => True) ?hr ?hp (fun _ hk => hk) trivial (Below.refl _ _) (Nat.le_refl _) (by simp) ?_; (case hd => rfl); (case hg => rfl); (case hr => first | (go_simp; done) | (go_simp; rfl)); (case hp => exact (Reps.c6 (show Kd.M k37 _ _ _ (⟨1, ([] : List Int), (⟨0, 0, ([] : List (S34))⟩ : S34), 0⟩ : S37) [.int .i64 1, .slice none 0 0, .int .i64 0, .int .i64 0, .slice none 0 0, .int .i64 0] from (k37_mkM _ _ _ (⟨1, ([] : List Int), (⟨0, 0, ([] : List (S34))⟩ : S34), 0⟩ : S37) (Kd.R_nil _ _ _ _ _) (Kd.R_nil _ _ _ _ _))) (Reps.none _ _))); intro v368 w7 ho8 hb hg_ hnew_; clear hg_ hnew_; (first | rw [← Ny367.out] at ho8 | (simp only [Int.reduceToNat] at ho8; rw [← Ny367.out] at ho8)); have n0_ := Aside0.mk (Kd.R_lower (Kd.R_newB ho8 (g := gb366) (o := .cells #[.int .i64 3, .int .i64 0, .slice none 0 0] 34 (0, 0)) (by (with_reducible repeat (first | refine blk_drewN ?_ _ | refine blk_drew ?_ | refine blk_alloc ?_ _)); refine blk_put (cs := #[.int .i64 3, .int .i64 0, .slice none 0 0]) ?_ 2 _ rfl; (with_reducible repeat (first | refine blk_drewN ?_ _ | refine blk_drew ?_ | refine blk_alloc ?_ _)); refine blk_put (cs := #[.int .i64 3, .int .i64 0, .slice none 0 0]) ?_ 1 _ rfl; (with_reducible repeat (first | refine blk_drewN ?_ _ | refine blk_drew ?_ | refine blk_alloc ?_ _)); refine blk_put (cs := #[.int .i64 0, .int .i64 0, .slice none 0 0]) ?_ 0 _ rfl; (with_reducible repeat (first | refine blk_drewN ?_ _ | refine blk_drew ?_ | refine blk_alloc ?_ _)); exact BK366.out)) (below_size (by repeat (first | (with_reducible first | exact HB.out | apply below_alloc | apply pw_below_drewN | apply below_drew1 | refine below_set ?_ GE366.out) | exact HB.out)))); have n1_ := Aside0.mk (blk_below (g := gb366) (o := .cells #[.int .i64 3, .int .i64 0, .slice none 0 0] 34 (0, 0)) (by (with_reducible repeat (first | refine blk_drewN ?_ _ | refine blk_drew ?_ | refine blk_alloc ?_ _)); refine blk_put (cs := #[.int .i64 3, .int .i64 0, .slice none 0 0]) ?_ 2 _ rfl; (with_reducible repeat (first | refine blk_drewN ?_ _ | refine blk_drew ?_ | refine blk_alloc ?_ _)); refine blk_put (cs := #[.int .i64 3, .int .i64 0, .slice none 0 0]) ?_ 1 _ rfl; (with_reducible repeat (first | refine blk_drewN ?_ _ | refine blk_drew ?_ | refine blk_alloc ?_ _)); refine blk_put (cs := #[.int .i64 0, .int .i64 0, .slice none 0 0]) ?_ 0 _ rfl; (with_reducible repeat (first | refine blk_drewN ?_ _ | refine blk_drew ?_ | refine blk_alloc ?_ _)); exact BK366.out) hb); have n2_ := Aside0.mk (below_step (by repeat (first | (with_reducible first | exact HB.out | apply below_alloc | apply pw_below_drewN | apply below_drew1 | refine below_set ?_ GE366.out) | exact HB.out)) hb); clear BK366; clear HB; have HO369 := n0_; have BK366 := n1_; have HB := n2_; clear n0_ n1_ n2_; clear hb ho8; obtain ⟨Ao9, co9, eo9⟩ := Kd.R_slice HO369.out; subst eo9) | ((with_reducible refine gate_dst (N := 8) rfl ?_); (try (refine gate_guard (by rfl) ?_; dsimp only)); refine box_event ?hg (N := 8) ?hd (cs := #[.slice none 0 0, .int .i64 0]) (t := 24) ?hr ?_; (case hd => rfl); (case hg => rfl); (case hr => first | (go_simp; done) | (go_simp; rfl)); intro gb370 hg w10 hbox hb; have n0_ := Aside0.mk (Kd.R_below (by (with_reducible repeat (first | apply Kd.R_alloc | apply Kd.R_drewN | apply Kd.R_drew)); exact HO369.out) hb); have n1_ := Aside0.mk (blk_below (g := gb366) (o := .cells #[.int .i64 3, .int .i64 0, .slice none 0 0] 34 (0, 0)) (by (with_reducible repeat (first | refine blk_drewN ?_ _ | refine blk_drew ?_ | refine blk_alloc ?_ _)); exact BK366.out) hb); have n2_ := Aside0.mk (below_step (by repeat (first | (with_reducible first | exact HB.out | apply below_alloc | apply pw_below_drewN | apply below_drew1 | refine below_set ?_ GE366.out) | exact HB.out)) hb); have n3_ := Aside0.mk (hbox); have n4_ := Aside0.mk ((by rw [hg]; exact (below_size (by repeat (first | (with_reducible first | exact HB.out | apply below_alloc | apply pw_below_drewN | apply below_drew1 | refine below_set ?_ GE366.out) | exact HB.out))) : w.heap.size ≤ gb370)); have n5_ := Aside0.mk ((by rw [hg]; exact (below_size (by repeat (first | (with_reducible first | exact HB.out | apply below_alloc | apply pw_below_drewN | apply below_drew1 | refine below_set ?_ GE366.out) | exact HB.out))) : w.heap.size ≤ gb370)); have n6_ := Aside0.mk ((by rw [hg]; exact Nat.ne_of_lt (blk_lt (g := gb366) (o := .cells #[.int .i64 3, .int .i64 0, .slice none 0 0] 34 (0, 0)) (by (with_reducible repeat (first | refine blk_drewN ?_ _ | refine blk_drew ?_ | refine blk_alloc ?_ _)); exact BK366.out)) : gb366 ≠ gb370)); have n7_ := Aside0.mk ((by rw [hg]; exact Nat.ne_of_gt (blk_lt (g := gb366) (o := .cells #[.int .i64 3, .int .i64 0, .slice none 0 0] 34 (0, 0)) (by (with_reducible repeat (first | refine blk_drewN ?_ _ | refine blk_drew ?_ | refine blk_alloc ?_ _)); exact BK366.out)) : gb370 ≠ gb366)); clear HO369; clear BK366; clear HB; have HO369 := n0_; have BK366 := n1_; have HB := n2_; have BK370 := n3_; have GW370 := n4_; have GE370 := n5_; have NB366_370 := n6_; have NB370_366 := n7_; clear n0_ n1_ n2_ n3_ n4_ n5_ n6_ n7_; clear hb hbox hg; have hnb11 := NB370_366.out; have hnc11 := NB366_370.out; have hcz12_0 : w10.cell? ⟨gb370, 0, none⟩ = some (.slice none 0 0) := (blk_cell BK370.out 0).trans rfl; have hcz12_1 : w10.cell? ⟨gb370, 1, none⟩ = some (.int .i64 0) := (blk_cell BK370.out 1).trans rfl; have hfz12_0 := blk_frozen BK370.out 0; have hfz12_1 := blk_frozen BK370.out 1))
  go_loopg [9] k (fun kq v9 w' => ∃ (x9_1 : Int) (x371000_1 : List (S37)) (u371000 : Value), v9 = .int .i64 x9_1 ∧ Aside0 (tidemilllaw16_CutSources.l0 kq a1 t365 (wrap64 (Int.tmod a0 8)) x9_1 3 0 x371000_1 1 = some r) ∧ Aside0 (kq ≤ k) ∧ Aside0 (Kd.R k37 37 w' w.heap.size (fun k_ => k_ ≠ gb366) u371000 x371000_1) ∧ Aside0 (w'.heap[gb366]? = some (.cells #[.int .i64 3, .int .i64 0, (.slice none 0 0)] 34 (0, 0))) ∧ Aside0 (w'.heap[gb370]? = some (.cells #[u371000, .int .i64 1] 24 (0, 0))) ∧ Aside0 (Below w.heap.size w w'))
  case atStart => exact ⟨(0), (y367), (.slice Ao9 y367.length co9), (by first | rfl | (simp; done) | (simp [*]; done)), H', ⟨Nat.le_refl _⟩, ⟨by (with_reducible repeat (first | apply Kd.R_alloc | apply Kd.R_drewN | apply Kd.R_drew)); exact Kd.R_mono (Kd.R_far (p := ⟨gb370, 1, none⟩) (Kd.R_far (p := ⟨gb370, 0, none⟩) (Kd.R_types HO369.out BK370.out (by decide)) (fun _ hk => hk.2) (.slice Ao9 y367.length co9)) (fun _ hk => hk.2) (.int .i64 1)) (fun _ hk => hk.1.2)⟩, ⟨by (with_reducible repeat (first | refine blk_drewN ?_ _ | refine blk_drew ?_ | refine blk_alloc ?_ _)); refine blk_far ?_ NB366_370.out _; (with_reducible repeat (first | refine blk_drewN ?_ _ | refine blk_drew ?_ | refine blk_alloc ?_ _)); refine blk_far ?_ NB366_370.out _; (with_reducible repeat (first | refine blk_drewN ?_ _ | refine blk_drew ?_ | refine blk_alloc ?_ _)); exact BK366.out⟩, ⟨by (with_reducible repeat (first | refine blk_drewN ?_ _ | refine blk_drew ?_ | refine blk_alloc ?_ _)); refine blk_put (cs := #[.slice Ao9 y367.length co9, .int .i64 0]) ?_ 1 _ rfl; (with_reducible repeat (first | refine blk_drewN ?_ _ | refine blk_drew ?_ | refine blk_alloc ?_ _)); refine blk_put (cs := #[.slice none 0 0, .int .i64 0]) ?_ 0 _ rfl; (with_reducible repeat (first | refine blk_drewN ?_ _ | refine blk_drew ?_ | refine blk_alloc ?_ _)); exact BK370.out⟩, ⟨by repeat (first | (with_reducible first | exact HB.out | apply below_alloc | apply pw_below_drewN | apply below_drew1 | refine below_set ?_ GE366.out | refine below_set ?_ GE370.out) | exact HB.out)⟩⟩
  case round =>
    clear H'
    try clear c1
    try clear p2
    try clear c4
    try clear c6
    try clear p6
    try clear c9
    try clear c11
    try clear hcz12_0
    try clear hcz12_1
    try clear hcz6_0
    try clear hcz6_1
    try clear hcz6_2
    try clear hfz12_0
    try clear hfz12_1
    try clear hfz6_0
    try clear hfz6_1
    try clear hfz6_2
    obtain ⟨x9_1, x371000_1, u371000, rfl, HA, HK1, HO_371000, BK366, BK370, HB⟩ := hrel
    cases gk with
    | zero => exact absurd HA.out (by simp [tidemilllaw16_CutSources.l0])
    | succ k1 =>
      have H := HA.out
      clear HA
      simp only [tidemilllaw16_CutSources.l0] at H
      by_cases c13 : x9_1 < (wrap64 (Int.tmod a0 8))
      · rw [if_pos c13] at H
        have c13b0 : decide (x9_1 < (wrap64 (Int.tmod a0 8))) = true := decide_eq_true c13
        clear c13
        obtain ⟨y371, hy371⟩ : ∃ y_ : List Int, y_ = (([x9_1] : List Int)) := ⟨_, rfl⟩
        replace H : (if x371000_1.length < 1759218604441 then (tidemilllaw16_CutSources.l0 k1 a1 t365 (wrap64 (Int.tmod a0 8)) (wrap64 (x9_1 + 1)) 3 0 (x371000_1 ++ [(⟨2, y371, (⟨3, 0, ([] : List (S34))⟩ : S34), 0⟩ : S37)]) 1) else (none)) = some r := by first | (rw [hy371]; with_reducible exact H) | (have H2_ := (Option.bind_some _ _).symm.trans H; rw [hy371]; with_reducible exact H2_) | (have H2_ := (Option.bind_some _ _).symm.trans H; with_reducible exact H2_) | with_reducible exact H | (rw [hy371]; exact H) | exact H
        have Ny371 := Aside0.mk hy371
        clear hy371
        by_cases c14 : x371000_1.length < 1759218604441
        · rw [if_pos c14] at H
          have LMc14 := Aside0.mk c14
          clear c14
          obtain ⟨y374, hy374⟩ : ∃ y_ : List (S37), y_ = (x371000_1 ++ [(⟨2, y371, (⟨3, 0, ([] : List (S34))⟩ : S34), 0⟩ : S37)]) := ⟨_, rfl⟩
          replace H : (tidemilllaw16_CutSources.l0 k1 a1 t365 (wrap64 (Int.tmod a0 8)) (wrap64 (x9_1 + 1)) 3 0 y374 1) = some r := by first | (rw [hy374]; with_reducible exact H) | (have H2_ := (Option.bind_some _ _).symm.trans H; rw [hy374]; with_reducible exact H2_) | (have H2_ := (Option.bind_some _ _).symm.trans H; with_reducible exact H2_) | with_reducible exact H | (rw [hy374]; exact H) | exact H
          have Ny374 := Aside0.mk hy374
          clear hy374
          have H' := Aside0.mk H
          clear H
          have hnb15 := NB370_366.out
          have hnc15 := NB366_370.out
          have hcz16_0 : wr.cell? ⟨gb370, 0, none⟩ = some (u371000) := (blk_cell BK370.out 0).trans rfl
          have hcz16_1 : wr.cell? ⟨gb370, 1, none⟩ = some (.int .i64 1) := (blk_cell BK370.out 1).trans rfl
          have hfz16_0 := blk_frozen BK370.out 0
          have hfz16_1 := blk_frozen BK370.out 1
          go_wp2_with (first | ((with_reducible refine gate_dst (N := 29) rfl ?_); (try (refine gate_guard (by rfl) ?_; dsimp only)); refine Kd.R_lit (Kd.int .i64) _ 3 ?hg (N := 29) ?hd (xs := ([x9_1] : List Int)) (inner := [.int .i64 x9_1]) (ok := fun _ => True) (okp := fun _ => True) ?hr ?hp (fun _ hk => hk) trivial (Below.refl _ _) (Nat.le_refl _) (by simp) ?_; (case hd => rfl); (case hg => rfl); (case hr => first | (go_simp; done) | (go_simp; rfl)); (case hp => exact (Reps.one (show Kd.M (Kd.int .i64) _ _ _ x9_1 [.int .i64 x9_1] from rfl) (Reps.none _ _))); intro v372 w17 ho18 hb hg_ hnew_; clear hg_ hnew_; (first | rw [← Ny371.out] at ho18 | (simp only [Int.reduceToNat] at ho18; rw [← Ny371.out] at ho18)); have n0_ := Aside0.mk (Kd.R_elder' (by (with_reducible repeat (first | apply Kd.R_alloc | apply Kd.R_drewN | apply Kd.R_drew)); exact HO_371000.out) (Kd.R_base ho18) hb); have n1_ := Aside0.mk (Kd.R_lower ho18 (below_size (by repeat (first | (with_reducible first | exact HB.out | apply below_alloc | apply pw_below_drewN | apply below_drew1 | refine below_set ?_ GE366.out | refine below_set ?_ GE370.out) | exact HB.out)))); have n2_ := Aside0.mk (blk_below (g := gb366) (o := .cells #[.int .i64 3, .int .i64 0, .slice none 0 0] 34 (0, 0)) (by (with_reducible repeat (first | refine blk_drewN ?_ _ | refine blk_drew ?_ | refine blk_alloc ?_ _)); exact BK366.out) hb); have n3_ := Aside0.mk (blk_below (g := gb370) (o := .cells #[u371000, .int .i64 1] 24 (0, 0)) (by (with_reducible repeat (first | refine blk_drewN ?_ _ | refine blk_drew ?_ | refine blk_alloc ?_ _)); exact BK370.out) hb); have n4_ := Aside0.mk (below_step (by repeat (first | (with_reducible first | exact HB.out | apply below_alloc | apply pw_below_drewN | apply below_drew1 | refine below_set ?_ GE366.out | refine below_set ?_ GE370.out) | exact HB.out)) hb); clear HO_371000; clear BK366; clear BK370; clear HB; have HO_371000 := n0_; have HO373 := n1_; have BK366 := n2_; have BK370 := n3_; have HB := n4_; clear n0_ n1_ n2_ n3_ n4_; clear hb ho18; have hcz19_0 : w17.cell? ⟨gb366, 0, none⟩ = some (.int .i64 3) := (blk_cell BK366.out 0).trans rfl; have hcz19_1 : w17.cell? ⟨gb366, 1, none⟩ = some (.int .i64 0) := (blk_cell BK366.out 1).trans rfl; have hcz19_2 : w17.cell? ⟨gb366, 2, none⟩ = some (.slice none 0 0) := (blk_cell BK366.out 2).trans rfl; have hfz19_0 := blk_frozen BK366.out 0; have hfz19_1 := blk_frozen BK366.out 1; have hfz19_2 := blk_frozen BK366.out 2; obtain ⟨Ao20, co20, eo20⟩ := Kd.R_slice HO373.out; subst eo20) | ((with_reducible refine gate_builtin (b := .append) (xs := #[.tmp 27, .tmp 32]) rfl ?_); (try (refine gate_guard (by rfl) ?_; dsimp only)); at_builtin; refine Kd.R_append k37 (w0 := w) w.heap.size rfl (.tmp 27) (.tmp 32) 22 37 (.agg #[(.int .i64 0), (.slice none 0 0), (.int .i64 0), (.int .i64 0), (.slice none 0 0), (.int .i64 0)]) 80 rfl Try.underlying22 info37 rfl (by decide) (by omega) u371000 x371000_1 (⟨2, y371, (⟨3, 0, ([] : List (S34))⟩ : S34), 0⟩ : S37) [.int .i64 2, .slice Ao20 y371.length co20, .int .i64 3, .int .i64 0, .slice none 0 0, .int .i64 0] (fun k_ => k_ ≠ gb366) (fun k_ => ((fun k_ => k_ ≠ gb366)) k_ ∧ some k_ ≠ (u371000 : Value).ownBlock) rfl rfl ?aP (fun _ hk => hk) ?aF ?aO ?aB ?aS ?aL ?_; (case aP => exact k37_mkM _ _ _ (⟨2, y371, (⟨3, 0, ([] : List (S34))⟩ : S34), 0⟩ : S37) (Kd.R_mono (Kd.R_types (Kd.R_apart' (HO373.out) (Kd.R_typed HO_371000.out) (by decide)) BK366.out (by decide)) (fun k_ hk => ⟨hk.2, hk.1.2⟩)) (Kd.R_nil _ _ _ _ _)); (case aB => exact (by repeat (first | (with_reducible first | exact HB.out | apply below_alloc | apply pw_below_drewN | apply below_drew1 | refine below_set ?_ GE366.out | refine below_set ?_ GE370.out) | exact HB.out))); (case aF => exact (fun k_ hk => Kd.freshB (g := gb366) (o := .cells #[.int .i64 3, .int .i64 0, .slice none 0 0] 34 (0, 0)) (by (with_reducible repeat (first | refine blk_drewN ?_ _ | refine blk_drew ?_ | refine blk_alloc ?_ _)); exact BK366.out) k_ hk)); (case aO => exact (by (with_reducible repeat (first | apply Kd.R_alloc | apply Kd.R_drewN | apply Kd.R_drew)); exact Kd.R_mono HO_371000.out (fun _ hk => hk.1))); (case aS => exact (below_size (by repeat (first | (with_reducible first | exact HB.out | apply below_alloc | apply pw_below_drewN | apply below_drew1 | refine below_set ?_ GE366.out | refine below_set ?_ GE370.out) | exact HB.out)))); (case aL => have := LMc14.out; omega); intro v375 w21 ho hb hg hat; rw [← Ny374.out] at ho; have n0_ := Aside0.mk (blk_grown (g := gb366) (o := .cells #[.int .i64 3, .int .i64 0, .slice none 0 0] 34 (0, 0)) (by (with_reducible repeat (first | refine blk_drewN ?_ _ | refine blk_drew ?_ | refine blk_alloc ?_ _)); exact BK366.out) hg (Kd.R_ne HO_371000.out BK366.out (by decide))); have n1_ := Aside0.mk (blk_grown (g := gb370) (o := .cells #[u371000, .int .i64 1] 24 (0, 0)) (by (with_reducible repeat (first | refine blk_drewN ?_ _ | refine blk_drew ?_ | refine blk_alloc ?_ _)); exact BK370.out) hg (Kd.R_ne HO_371000.out BK370.out (by decide))); have n2_ := Aside0.mk (hb); have n3_ := Aside0.mk (ho); clear BK366; clear BK370; clear HB; clear HO_371000; clear HO373; have BK366 := n0_; have BK370 := n1_; have HB := n2_; have HO376 := n3_; clear n0_ n1_ n2_ n3_; clear ho hb hg hat; obtain ⟨Ao22, co22, eo22⟩ := Kd.R_slice HO376.out; subst eo22; have hcz23_0 : w21.cell? ⟨gb370, 0, none⟩ = some (u371000) := (blk_cell BK370.out 0).trans rfl; have hcz23_1 : w21.cell? ⟨gb370, 1, none⟩ = some (.int .i64 1) := (blk_cell BK370.out 1).trans rfl; have hfz23_0 := blk_frozen BK370.out 0; have hfz23_1 := blk_frozen BK370.out 1))
          go_roundg k1
          case measure => have := HK1.out; omega
          case rel => exact ⟨(wrap64 (x9_1 + 1)), (y374), (.slice Ao22 y374.length co22), (by first | rfl | (simp; done) | (simp [*]; done)), H', ⟨by have := HK1.out; omega⟩, ⟨by (with_reducible repeat (first | apply Kd.R_alloc | apply Kd.R_drewN | apply Kd.R_drew)); exact Kd.R_mono (Kd.R_far (p := ⟨gb370, 0, none⟩) (Kd.R_types HO376.out BK370.out (by decide)) (fun _ hk => hk.2) (.slice Ao22 y374.length co22)) (fun _ hk => hk.1)⟩, ⟨by (with_reducible repeat (first | refine blk_drewN ?_ _ | refine blk_drew ?_ | refine blk_alloc ?_ _)); refine blk_far ?_ NB366_370.out _; (with_reducible repeat (first | refine blk_drewN ?_ _ | refine blk_drew ?_ | refine blk_alloc ?_ _)); exact BK366.out⟩, ⟨by (with_reducible repeat (first | refine blk_drewN ?_ _ | refine blk_drew ?_ | refine blk_alloc ?_ _)); refine blk_put (cs := #[u371000, .int .i64 1]) ?_ 0 _ rfl; (with_reducible repeat (first | refine blk_drewN ?_ _ | refine blk_drew ?_ | refine blk_alloc ?_ _)); exact BK370.out⟩, ⟨by repeat (first | (with_reducible first | exact HB.out | apply below_alloc | apply pw_below_drewN | apply below_drew1 | refine below_set ?_ GE366.out | refine below_set ?_ GE370.out) | exact HB.out)⟩⟩
        · rw [if_neg c14] at H
          exact absurd H (by simp)
      · rw [if_neg c13] at H
        have c13b0 : decide (x9_1 < (wrap64 (Int.tmod a0 8))) = false := decide_eq_false c13
        clear c13
        have HC24 := Aside0.mk H
        clear H
        go_upto_if 35 with (fail)
        go_cut [] (fun wc => ∃ (kq : Nat) (x371000_23 : List (S37)) (u371000 : Value), Aside0 (tidemilllaw16_CutSources.j1 kq a1 t365 (wrap64 (Int.tmod a0 8)) x371000_23 1 = some r) ∧ Aside0 (kq ≤ k1) ∧ Aside0 (Kd.R k37 37 wc w.heap.size (fun k_ => k_ ≠ gb366) u371000 x371000_23) ∧ Aside0 (wc.heap[gb366]? = some (.cells #[.int .i64 3, .int .i64 0, (.slice none 0 0)] 34 (0, 0))) ∧ Aside0 (wc.heap[gb370]? = some (.cells #[u371000, .int .i64 1] 24 (0, 0))) ∧ Aside0 (Below w.heap.size w wc))
        case first =>
          have H := HC24.out
          clear HC24
          by_cases c25 : a1 = true
          · subst c25
            have H1 : (if x371000_1.length < 1759218604441 then (tidemilllaw16_CutSources.j1 k1 true t365 (wrap64 (Int.tmod a0 8)) (x371000_1 ++ [(⟨5, (([(wrap64 (Int.tmod a0 8))] : List Int)), (⟨3, 0, ([] : List (S34))⟩ : S34), 0⟩ : S37)]) 1) else (none)) = some r := by rw [if_pos rfl] at H; exact H
            clear H
            have H := H1
            clear H1
            obtain ⟨y377, hy377⟩ : ∃ y_ : List Int, y_ = (([(wrap64 (Int.tmod a0 8))] : List Int)) := ⟨_, rfl⟩
            replace H : (if x371000_1.length < 1759218604441 then (tidemilllaw16_CutSources.j1 k1 true t365 (wrap64 (Int.tmod a0 8)) (x371000_1 ++ [(⟨5, y377, (⟨3, 0, ([] : List (S34))⟩ : S34), 0⟩ : S37)]) 1) else (none)) = some r := by first | (rw [hy377]; with_reducible exact H) | (have H2_ := (Option.bind_some _ _).symm.trans H; rw [hy377]; with_reducible exact H2_) | (have H2_ := (Option.bind_some _ _).symm.trans H; with_reducible exact H2_) | with_reducible exact H | (rw [hy377]; exact H) | exact H
            have Ny377 := Aside0.mk hy377
            clear hy377
            by_cases c26 : x371000_1.length < 1759218604441
            · rw [if_pos c26] at H
              have LMc26 := Aside0.mk c26
              clear c26
              obtain ⟨y380, hy380⟩ : ∃ y_ : List (S37), y_ = (x371000_1 ++ [(⟨5, y377, (⟨3, 0, ([] : List (S34))⟩ : S34), 0⟩ : S37)]) := ⟨_, rfl⟩
              replace H : (tidemilllaw16_CutSources.j1 k1 true t365 (wrap64 (Int.tmod a0 8)) y380 1) = some r := by first | (rw [hy380]; with_reducible exact H) | (have H2_ := (Option.bind_some _ _).symm.trans H; rw [hy380]; with_reducible exact H2_) | (have H2_ := (Option.bind_some _ _).symm.trans H; with_reducible exact H2_) | with_reducible exact H | (rw [hy380]; exact H) | exact H
              have Ny380 := Aside0.mk hy380
              clear hy380
              have H' := Aside0.mk H
              clear H
              have hnb27 := NB370_366.out
              have hnc27 := NB366_370.out
              have hcz28_0 : wr.cell? ⟨gb370, 0, none⟩ = some (u371000) := (blk_cell BK370.out 0).trans rfl
              have hcz28_1 : wr.cell? ⟨gb370, 1, none⟩ = some (.int .i64 1) := (blk_cell BK370.out 1).trans rfl
              have hfz28_0 := blk_frozen BK370.out 0
              have hfz28_1 := blk_frozen BK370.out 1
              go_wp2_with (first | ((with_reducible refine gate_dst (N := 39) rfl ?_); (try (refine gate_guard (by rfl) ?_; dsimp only)); refine Kd.R_lit (Kd.int .i64) _ 3 ?hg (N := 39) ?hd (xs := ([(wrap64 (Int.tmod a0 8))] : List Int)) (inner := [.int .i64 (wrap64 (Int.tmod a0 8))]) (ok := fun _ => True) (okp := fun _ => True) ?hr ?hp (fun _ hk => hk) trivial (Below.refl _ _) (Nat.le_refl _) (by simp) ?_; (case hd => rfl); (case hg => rfl); (case hr => first | (go_simp; done) | (go_simp; rfl)); (case hp => exact (Reps.one (show Kd.M (Kd.int .i64) _ _ _ (wrap64 (Int.tmod a0 8)) [.int .i64 (wrap64 (Int.tmod a0 8))] from rfl) (Reps.none _ _))); intro v378 w29 ho30 hb hg_ hnew_; clear hg_ hnew_; (first | rw [← Ny377.out] at ho30 | (simp only [Int.reduceToNat] at ho30; rw [← Ny377.out] at ho30)); have n0_ := Aside0.mk (Kd.R_elder' (by (with_reducible repeat (first | apply Kd.R_alloc | apply Kd.R_drewN | apply Kd.R_drew)); exact HO_371000.out) (Kd.R_base ho30) hb); have n1_ := Aside0.mk (Kd.R_lower ho30 (below_size (by repeat (first | (with_reducible first | exact HB.out | apply below_alloc | apply pw_below_drewN | apply below_drew1 | refine below_set ?_ GE366.out | refine below_set ?_ GE370.out) | exact HB.out)))); have n2_ := Aside0.mk (blk_below (g := gb366) (o := .cells #[.int .i64 3, .int .i64 0, .slice none 0 0] 34 (0, 0)) (by (with_reducible repeat (first | refine blk_drewN ?_ _ | refine blk_drew ?_ | refine blk_alloc ?_ _)); exact BK366.out) hb); have n3_ := Aside0.mk (blk_below (g := gb370) (o := .cells #[u371000, .int .i64 1] 24 (0, 0)) (by (with_reducible repeat (first | refine blk_drewN ?_ _ | refine blk_drew ?_ | refine blk_alloc ?_ _)); exact BK370.out) hb); have n4_ := Aside0.mk (below_step (by repeat (first | (with_reducible first | exact HB.out | apply below_alloc | apply pw_below_drewN | apply below_drew1 | refine below_set ?_ GE366.out | refine below_set ?_ GE370.out) | exact HB.out)) hb); clear HO_371000; clear BK366; clear BK370; clear HB; have HO_371000 := n0_; have HO379 := n1_; have BK366 := n2_; have BK370 := n3_; have HB := n4_; clear n0_ n1_ n2_ n3_ n4_; clear hb ho30; have hcz31_0 : w29.cell? ⟨gb366, 0, none⟩ = some (.int .i64 3) := (blk_cell BK366.out 0).trans rfl; have hcz31_1 : w29.cell? ⟨gb366, 1, none⟩ = some (.int .i64 0) := (blk_cell BK366.out 1).trans rfl; have hcz31_2 : w29.cell? ⟨gb366, 2, none⟩ = some (.slice none 0 0) := (blk_cell BK366.out 2).trans rfl; have hfz31_0 := blk_frozen BK366.out 0; have hfz31_1 := blk_frozen BK366.out 1; have hfz31_2 := blk_frozen BK366.out 2; obtain ⟨Ao32, co32, eo32⟩ := Kd.R_slice HO379.out; subst eo32) | ((with_reducible refine gate_builtin (b := .append) (xs := #[.tmp 37, .tmp 42]) rfl ?_); (try (refine gate_guard (by rfl) ?_; dsimp only)); at_builtin; refine Kd.R_append k37 (w0 := w) w.heap.size rfl (.tmp 37) (.tmp 42) 22 37 (.agg #[(.int .i64 0), (.slice none 0 0), (.int .i64 0), (.int .i64 0), (.slice none 0 0), (.int .i64 0)]) 80 rfl Try.underlying22 info37 rfl (by decide) (by omega) u371000 x371000_1 (⟨5, y377, (⟨3, 0, ([] : List (S34))⟩ : S34), 0⟩ : S37) [.int .i64 5, .slice Ao32 y377.length co32, .int .i64 3, .int .i64 0, .slice none 0 0, .int .i64 0] (fun k_ => k_ ≠ gb366) (fun k_ => ((fun k_ => k_ ≠ gb366)) k_ ∧ some k_ ≠ (u371000 : Value).ownBlock) rfl rfl ?aP (fun _ hk => hk) ?aF ?aO ?aB ?aS ?aL ?_; (case aP => exact k37_mkM _ _ _ (⟨5, y377, (⟨3, 0, ([] : List (S34))⟩ : S34), 0⟩ : S37) (Kd.R_mono (Kd.R_types (Kd.R_apart' (HO379.out) (Kd.R_typed HO_371000.out) (by decide)) BK366.out (by decide)) (fun k_ hk => ⟨hk.2, hk.1.2⟩)) (Kd.R_nil _ _ _ _ _)); (case aB => exact (by repeat (first | (with_reducible first | exact HB.out | apply below_alloc | apply pw_below_drewN | apply below_drew1 | refine below_set ?_ GE366.out | refine below_set ?_ GE370.out) | exact HB.out))); (case aF => exact (fun k_ hk => Kd.freshB (g := gb366) (o := .cells #[.int .i64 3, .int .i64 0, .slice none 0 0] 34 (0, 0)) (by (with_reducible repeat (first | refine blk_drewN ?_ _ | refine blk_drew ?_ | refine blk_alloc ?_ _)); exact BK366.out) k_ hk)); (case aO => exact (by (with_reducible repeat (first | apply Kd.R_alloc | apply Kd.R_drewN | apply Kd.R_drew)); exact Kd.R_mono HO_371000.out (fun _ hk => hk.1))); (case aS => exact (below_size (by repeat (first | (with_reducible first | exact HB.out | apply below_alloc | apply pw_below_drewN | apply below_drew1 | refine below_set ?_ GE366.out | refine below_set ?_ GE370.out) | exact HB.out)))); (case aL => have := LMc26.out; omega); intro v381 w33 ho hb hg hat; rw [← Ny380.out] at ho; have n0_ := Aside0.mk (blk_grown (g := gb366) (o := .cells #[.int .i64 3, .int .i64 0, .slice none 0 0] 34 (0, 0)) (by (with_reducible repeat (first | refine blk_drewN ?_ _ | refine blk_drew ?_ | refine blk_alloc ?_ _)); exact BK366.out) hg (Kd.R_ne HO_371000.out BK366.out (by decide))); have n1_ := Aside0.mk (blk_grown (g := gb370) (o := .cells #[u371000, .int .i64 1] 24 (0, 0)) (by (with_reducible repeat (first | refine blk_drewN ?_ _ | refine blk_drew ?_ | refine blk_alloc ?_ _)); exact BK370.out) hg (Kd.R_ne HO_371000.out BK370.out (by decide))); have n2_ := Aside0.mk (hb); have n3_ := Aside0.mk (ho); clear BK366; clear BK370; clear HB; clear HO_371000; clear HO379; have BK366 := n0_; have BK370 := n1_; have HB := n2_; have HO382 := n3_; clear n0_ n1_ n2_ n3_; clear ho hb hg hat; obtain ⟨Ao34, co34, eo34⟩ := Kd.R_slice HO382.out; subst eo34; have hcz35_0 : w33.cell? ⟨gb370, 0, none⟩ = some (u371000) := (blk_cell BK370.out 0).trans rfl; have hcz35_1 : w33.cell? ⟨gb370, 1, none⟩ = some (.int .i64 1) := (blk_cell BK370.out 1).trans rfl; have hfz35_0 := blk_frozen BK370.out 0; have hfz35_1 := blk_frozen BK370.out 1))
              go_meet
              case rel => exact ⟨_, (y380), (.slice Ao34 y380.length co34), H', ⟨by have := HK1.out; first | omega | exact Nat.le_refl _⟩, ⟨by (with_reducible repeat (first | apply Kd.R_alloc | apply Kd.R_drewN | apply Kd.R_drew)); exact Kd.R_mono (Kd.R_far (p := ⟨gb370, 0, none⟩) (Kd.R_types HO382.out BK370.out (by decide)) (fun _ hk => hk.2) (.slice Ao34 y380.length co34)) (fun _ hk => hk.1)⟩, ⟨by (with_reducible repeat (first | refine blk_drewN ?_ _ | refine blk_drew ?_ | refine blk_alloc ?_ _)); refine blk_far ?_ NB366_370.out _; (with_reducible repeat (first | refine blk_drewN ?_ _ | refine blk_drew ?_ | refine blk_alloc ?_ _)); exact BK366.out⟩, ⟨by (with_reducible repeat (first | refine blk_drewN ?_ _ | refine blk_drew ?_ | refine blk_alloc ?_ _)); refine blk_put (cs := #[u371000, .int .i64 1]) ?_ 0 _ rfl; (with_reducible repeat (first | refine blk_drewN ?_ _ | refine blk_drew ?_ | refine blk_alloc ?_ _)); exact BK370.out⟩, ⟨by repeat (first | (with_reducible first | exact HB.out | apply below_alloc | apply pw_below_drewN | apply below_drew1 | refine below_set ?_ GE366.out | refine below_set ?_ GE370.out) | exact HB.out)⟩⟩
            · rw [if_neg c26] at H
              exact absurd H (by simp)
          · replace c25 := Bool.eq_false_iff.mpr c25
            subst c25
            have H1 : (tidemilllaw16_CutSources.j1 k1 false t365 (wrap64 (Int.tmod a0 8)) x371000_1 1) = some r := by rw [if_neg (show ¬ (false = true) by decide)] at H; exact H
            clear H
            have H := H1
            clear H1
            have H' := Aside0.mk H
            clear H
            go_wp2
            go_meet
            case rel => exact ⟨_, (x371000_1), (u371000), H', ⟨by have := HK1.out; first | omega | exact Nat.le_refl _⟩, ⟨by (with_reducible repeat (first | apply Kd.R_alloc | apply Kd.R_drewN | apply Kd.R_drew)); exact HO_371000.out⟩, ⟨by (with_reducible repeat (first | refine blk_drewN ?_ _ | refine blk_drew ?_ | refine blk_alloc ?_ _)); exact BK366.out⟩, ⟨by (with_reducible repeat (first | refine blk_drewN ?_ _ | refine blk_drew ?_ | refine blk_alloc ?_ _)); exact BK370.out⟩, ⟨by repeat (first | (with_reducible first | exact HB.out | apply below_alloc | apply pw_below_drewN | apply below_drew1 | refine below_set ?_ GE366.out | refine below_set ?_ GE370.out) | exact HB.out)⟩⟩
        case rest =>
          clear HC24
          try clear c1
          try clear c2
          try clear p2
          try clear c4
          try clear c6
          try clear p6
          try clear c9
          try clear c11
          try clear c13
          try clear c13b0
          try clear c14
          try clear c15
          try clear c25
          try clear c26
          try clear c27
          try clear hcz12_0
          try clear hcz12_1
          try clear hcz16_0
          try clear hcz16_1
          try clear hcz19_0
          try clear hcz19_1
          try clear hcz19_2
          try clear hcz23_0
          try clear hcz23_1
          try clear hcz28_0
          try clear hcz28_1
          try clear hcz31_0
          try clear hcz31_1
          try clear hcz31_2
          try clear hcz35_0
          try clear hcz35_1
          try clear hcz6_0
          try clear hcz6_1
          try clear hcz6_2
          try clear hfz12_0
          try clear hfz12_1
          try clear hfz16_0
          try clear hfz16_1
          try clear hfz19_0
          try clear hfz19_1
          try clear hfz19_2
          try clear hfz23_0
          try clear hfz23_1
          try clear hfz28_0
          try clear hfz28_1
          try clear hfz31_0
          try clear hfz31_1
          try clear hfz31_2
          try clear hfz35_0
          try clear hfz35_1
          try clear hfz6_0
          try clear hfz6_1
          try clear hfz6_2
          try clear p2
          try clear p6
          obtain ⟨kq, x371000_23, u371000, HA, HJ23, HO_371000, BK366, BK370, HB⟩ := hcut
          cases kq with
          | zero => exact absurd HA.out (by simp [tidemilllaw16_CutSources.j1])
          | succ kj23 =>
            have H := HA.out
            clear HA
            simp only [tidemilllaw16_CutSources.j1] at H
            obtain ⟨y383, hy383⟩ : ∃ y_ : List Int, y_ = (([wrap64 ((x371000_23.length : Int) - 1)] : List Int)) := ⟨_, rfl⟩
            replace H : (if x371000_23.length < 1759218604441 then ((some (x371000_23 ++ [(⟨10, y383, (⟨0, 0, ([] : List (S34))⟩ : S34), 0⟩ : S37)] : List (S37))).bind fun y386 => ((cut_Parts.f y386 1).bind fun bt389 => (if a1 = true then (tidemilllaw16_CutSources.j2 kj23 a1 t365 (wrap64 (Int.tmod a0 8)) bt389.1 bt389.2 2 y386 1) else (tidemilllaw16_CutSources.j2 kj23 a1 t365 (wrap64 (Int.tmod a0 8)) bt389.1 bt389.2 1 y386 1)))) else (none)) = some r := by first | (rw [hy383]; with_reducible exact H) | (have H2_ := (Option.bind_some _ _).symm.trans H; rw [hy383]; with_reducible exact H2_) | (have H2_ := (Option.bind_some _ _).symm.trans H; with_reducible exact H2_) | with_reducible exact H | (rw [hy383]; exact H) | exact H
            have Ny383 := Aside0.mk hy383
            clear hy383
            by_cases c36 : x371000_23.length < 1759218604441
            · rw [if_pos c36] at H
              have LMc36 := Aside0.mk c36
              clear c36
              obtain ⟨y386, hy386⟩ : ∃ y_ : List (S37), y_ = (x371000_23 ++ [(⟨10, y383, (⟨0, 0, ([] : List (S34))⟩ : S34), 0⟩ : S37)]) := ⟨_, rfl⟩
              replace H : ((cut_Parts.f y386 1).bind fun bt389 => (if a1 = true then (tidemilllaw16_CutSources.j2 kj23 a1 t365 (wrap64 (Int.tmod a0 8)) bt389.1 bt389.2 2 y386 1) else (tidemilllaw16_CutSources.j2 kj23 a1 t365 (wrap64 (Int.tmod a0 8)) bt389.1 bt389.2 1 y386 1))) = some r := by first | (rw [hy386]; with_reducible exact H) | (have H2_ := (Option.bind_some _ _).symm.trans H; rw [hy386]; with_reducible exact H2_) | (have H2_ := (Option.bind_some _ _).symm.trans H; with_reducible exact H2_) | with_reducible exact H | (rw [hy386]; exact H) | exact H
              have Ny386 := Aside0.mk hy386
              clear hy386
              replace H := Option.bind_eq_some_iff.mp H
              obtain ⟨⟨t389, t392⟩, A370, H⟩ := H
              replace H : (if a1 = true then (tidemilllaw16_CutSources.j2 kj23 a1 t365 (wrap64 (Int.tmod a0 8)) t389 t392 2 y386 1) else (tidemilllaw16_CutSources.j2 kj23 a1 t365 (wrap64 (Int.tmod a0 8)) t389 t392 1 y386 1)) = some r := H
              have A37 := Aside0.mk A370
              clear A370
              have HC38 := Aside0.mk H
              clear H
              have hnb39 := NB370_366.out
              have hnc39 := NB366_370.out
              have hcz40_0 : wc.cell? ⟨gb370, 0, none⟩ = some (u371000) := (blk_cell BK370.out 0).trans rfl
              have hcz40_1 : wc.cell? ⟨gb370, 1, none⟩ = some (.int .i64 1) := (blk_cell BK370.out 1).trans rfl
              have hfz40_0 := blk_frozen BK370.out 0
              have hfz40_1 := blk_frozen BK370.out 1
              obtain ⟨Ao41, co41, eo41⟩ := Kd.R_slice HO_371000.out
              subst eo41
              go_upto_if 61 with (first | ((with_reducible refine gate_dst (N := 51) rfl ?_); (try (refine gate_guard (by rfl) ?_; dsimp only)); refine Kd.R_lit (Kd.int .i64) _ 3 ?hg (N := 51) ?hd (xs := ([wrap64 ((x371000_23.length : Int) - 1)] : List Int)) (inner := [.int .i64 (wrap64 ((x371000_23.length : Int) - 1))]) (ok := fun _ => True) (okp := fun _ => True) ?hr ?hp (fun _ hk => hk) trivial (Below.refl _ _) (Nat.le_refl _) (by simp) ?_; (case hd => rfl); (case hg => rfl); (case hr => first | (go_simp; done) | (go_simp; rfl)); (case hp => exact (Reps.one (show Kd.M (Kd.int .i64) _ _ _ (wrap64 ((x371000_23.length : Int) - 1)) [.int .i64 (wrap64 ((x371000_23.length : Int) - 1))] from rfl) (Reps.none _ _))); intro v384 w42 ho43 hb hg_ hnew_; clear hg_ hnew_; (first | rw [← Ny383.out] at ho43 | (simp only [Int.reduceToNat] at ho43; rw [← Ny383.out] at ho43)); have n0_ := Aside0.mk (Kd.R_elder' (by (with_reducible repeat (first | apply Kd.R_alloc | apply Kd.R_drewN | apply Kd.R_drew)); exact HO_371000.out) (Kd.R_base ho43) hb); have n1_ := Aside0.mk (Kd.R_lower ho43 (below_size (by repeat (first | (with_reducible first | exact HB.out | apply below_alloc | apply pw_below_drewN | apply below_drew1 | refine below_set ?_ GE366.out | refine below_set ?_ GE370.out) | exact HB.out)))); have n2_ := Aside0.mk (blk_below (g := gb366) (o := .cells #[.int .i64 3, .int .i64 0, .slice none 0 0] 34 (0, 0)) (by (with_reducible repeat (first | refine blk_drewN ?_ _ | refine blk_drew ?_ | refine blk_alloc ?_ _)); exact BK366.out) hb); have n3_ := Aside0.mk (blk_below (g := gb370) (o := .cells #[.slice Ao41 x371000_23.length co41, .int .i64 1] 24 (0, 0)) (by (with_reducible repeat (first | refine blk_drewN ?_ _ | refine blk_drew ?_ | refine blk_alloc ?_ _)); exact BK370.out) hb); have n4_ := Aside0.mk (below_step (by repeat (first | (with_reducible first | exact HB.out | apply below_alloc | apply pw_below_drewN | apply below_drew1 | refine below_set ?_ GE366.out | refine below_set ?_ GE370.out) | exact HB.out)) hb); clear HO_371000; clear BK366; clear BK370; clear HB; have HO_371000 := n0_; have HO385 := n1_; have BK366 := n2_; have BK370 := n3_; have HB := n4_; clear n0_ n1_ n2_ n3_ n4_; clear hb ho43; obtain ⟨Ao44, co44, eo44⟩ := Kd.R_slice HO385.out; subst eo44) | ((with_reducible refine gate_builtin (b := .append) (xs := #[.tmp 46, .tmp 53]) rfl ?_); (try (refine gate_guard (by rfl) ?_; dsimp only)); at_builtin; refine Kd.R_append k37 (w0 := w) w.heap.size rfl (.tmp 46) (.tmp 53) 22 37 (.agg #[(.int .i64 0), (.slice none 0 0), (.int .i64 0), (.int .i64 0), (.slice none 0 0), (.int .i64 0)]) 80 rfl Try.underlying22 info37 rfl (by decide) (by omega) (.slice Ao41 x371000_23.length co41) x371000_23 (⟨10, y383, (⟨0, 0, ([] : List (S34))⟩ : S34), 0⟩ : S37) [.int .i64 10, .slice Ao44 y383.length co44, .int .i64 0, .int .i64 0, .slice none 0 0, .int .i64 0] (fun k_ => k_ ≠ gb366) (fun k_ => ((fun k_ => k_ ≠ gb366)) k_ ∧ some k_ ≠ (.slice Ao41 x371000_23.length co41 : Value).ownBlock) rfl rfl ?aP (fun _ hk => hk) ?aF ?aO ?aB ?aS ?aL ?_; (case aP => exact k37_mkM _ _ _ (⟨10, y383, (⟨0, 0, ([] : List (S34))⟩ : S34), 0⟩ : S37) (Kd.R_mono (Kd.R_types (Kd.R_apart' (HO385.out) (Kd.R_typed HO_371000.out) (by decide)) BK366.out (by decide)) (fun k_ hk => ⟨hk.2, hk.1.2⟩)) (Kd.R_nil _ _ _ _ _)); (case aB => exact (by repeat (first | (with_reducible first | exact HB.out | apply below_alloc | apply pw_below_drewN | apply below_drew1 | refine below_set ?_ GE366.out | refine below_set ?_ GE370.out) | exact HB.out))); (case aF => exact (fun k_ hk => Kd.freshB (g := gb366) (o := .cells #[.int .i64 3, .int .i64 0, .slice none 0 0] 34 (0, 0)) (by (with_reducible repeat (first | refine blk_drewN ?_ _ | refine blk_drew ?_ | refine blk_alloc ?_ _)); exact BK366.out) k_ hk)); (case aO => exact (by (with_reducible repeat (first | apply Kd.R_alloc | apply Kd.R_drewN | apply Kd.R_drew)); exact Kd.R_mono HO_371000.out (fun _ hk => hk.1))); (case aS => exact (below_size (by repeat (first | (with_reducible first | exact HB.out | apply below_alloc | apply pw_below_drewN | apply below_drew1 | refine below_set ?_ GE366.out | refine below_set ?_ GE370.out) | exact HB.out)))); (case aL => have := LMc36.out; omega); intro v387 w45 ho hb hg hat; rw [← Ny386.out] at ho; have n0_ := Aside0.mk (blk_grown (g := gb366) (o := .cells #[.int .i64 3, .int .i64 0, .slice none 0 0] 34 (0, 0)) (by (with_reducible repeat (first | refine blk_drewN ?_ _ | refine blk_drew ?_ | refine blk_alloc ?_ _)); exact BK366.out) hg (Kd.R_ne HO_371000.out BK366.out (by decide))); have n1_ := Aside0.mk (blk_grown (g := gb370) (o := .cells #[.slice Ao41 x371000_23.length co41, .int .i64 1] 24 (0, 0)) (by (with_reducible repeat (first | refine blk_drewN ?_ _ | refine blk_drew ?_ | refine blk_alloc ?_ _)); exact BK370.out) hg (Kd.R_ne HO_371000.out BK370.out (by decide))); have n2_ := Aside0.mk (hb); have n3_ := Aside0.mk (ho); clear BK366; clear BK370; clear HB; clear HO_371000; clear HO385; have BK366 := n0_; have BK370 := n1_; have HB := n2_; have HO388 := n3_; clear n0_ n1_ n2_ n3_; clear ho hb hg hat; obtain ⟨Ao46, co46, eo46⟩ := Kd.R_slice HO388.out; subst eo46; have hcz47_0 : w45.cell? ⟨gb370, 0, none⟩ = some (.slice Ao41 x371000_23.length co41) := (blk_cell BK370.out 0).trans rfl; have hcz47_1 : w45.cell? ⟨gb370, 1, none⟩ = some (.int .i64 1) := (blk_cell BK370.out 1).trans rfl; have hfz47_0 := blk_frozen BK370.out 0; have hfz47_1 := blk_frozen BK370.out 1) | ((with_reducible refine gate_callee (f := 13) rfl ?_); refine goesL_ (some 58) rfl rfl Try.func13 (by kernel_rfl) rfl #[.agg #[.slice Ao46 y386.length co46, .int .i64 1]] rfl (by (try simp only [List.map_toArray, List.map_cons, List.map_nil]); first | done | rfl | (simp only [List.length_drop, List.length_take]; rfl)) ?_; (with_reducible refine (cut_Parts.calls _ _ y386 1 t389 t392 _ ?side1 ?side2 A37.out).mono ?_); (case side1 => refine (Kd.R_reads' (e := 37) (base := w.heap.size) (ok := fun k_ => k_ ≠ gb366) (n := y386.length) (c := co46) ?_).2.2; exact (by (with_reducible repeat (first | apply Kd.R_alloc | apply Kd.R_drewN | apply Kd.R_drew)); exact (Kd.R_mono (Kd.R_far (p := ⟨gb370, 0, none⟩) (Kd.R_types HO388.out BK370.out (by decide)) (fun _ hk => hk.2) (.slice Ao46 y386.length co46)) (fun _ h_ => h_.1)))); (case side2 => exact (Kd.R_reads' HO388.out).2.1); rintro e w48 ⟨v390, rfl, ho0, hb⟩; refine ⟨_, rfl, ?_⟩; have n0_ := Aside0.mk (Kd.R_elder' (by (with_reducible repeat (first | apply Kd.R_alloc | apply Kd.R_drewN | apply Kd.R_drew)); exact (Kd.R_mono (Kd.R_far (p := ⟨gb370, 0, none⟩) (Kd.R_types HO388.out BK370.out (by decide)) (fun _ hk => hk.2) (.slice Ao46 y386.length co46)) (fun _ h_ => h_.1))) (Kd.R_base ho0) hb); have n1_ := Aside0.mk (Kd.R_lower ho0 (below_size (by repeat (first | (with_reducible first | exact HB.out | apply below_alloc | apply pw_below_drewN | apply below_drew1 | refine below_set ?_ GE366.out | refine below_set ?_ GE370.out) | exact HB.out)))); have n2_ := Aside0.mk (blk_below (g := gb366) (o := .cells #[.int .i64 3, .int .i64 0, .slice none 0 0] 34 (0, 0)) (by (with_reducible repeat (first | refine blk_drewN ?_ _ | refine blk_drew ?_ | refine blk_alloc ?_ _)); refine blk_far ?_ NB366_370.out _; (with_reducible repeat (first | refine blk_drewN ?_ _ | refine blk_drew ?_ | refine blk_alloc ?_ _)); exact BK366.out) hb); have n3_ := Aside0.mk (blk_below (g := gb370) (o := .cells #[.slice Ao46 y386.length co46, .int .i64 1] 24 (0, 0)) (by (with_reducible repeat (first | refine blk_drewN ?_ _ | refine blk_drew ?_ | refine blk_alloc ?_ _)); refine blk_put (cs := #[.slice Ao41 x371000_23.length co41, .int .i64 1]) ?_ 0 _ rfl; (with_reducible repeat (first | refine blk_drewN ?_ _ | refine blk_drew ?_ | refine blk_alloc ?_ _)); exact BK370.out) hb); have n4_ := Aside0.mk (below_step (by repeat (first | (with_reducible first | exact HB.out | apply below_alloc | apply pw_below_drewN | apply below_drew1 | refine below_set ?_ GE366.out | refine below_set ?_ GE370.out) | exact HB.out)) hb); clear HO388; clear BK366; clear BK370; clear HB; have HO388 := n0_; have HO391 := n1_; have BK366 := n2_; have BK370 := n3_; have HB := n4_; clear n0_ n1_ n2_ n3_ n4_; (try clear hb); (try clear hb2); (try clear hk); (try clear hi); (try clear ho0)))
              (try simp only [Act.put, List.setIfInBounds_toArray, List.set_cons_zero, List.set_cons_succ])
              go_cut [12] (fun v12 wc => ∃ (kq : Nat) (x12_37 : Int), v12 = .int .i64 x12_37 ∧ Aside0 (tidemilllaw16_CutSources.j2 kq a1 t365 (wrap64 (Int.tmod a0 8)) t389 t392 x12_37 y386 1 = some r) ∧ Aside0 (kq ≤ kj23) ∧ Aside0 (Kd.R (Kd.int .i64) 3 wc w.heap.size (fun _ => True) v390 t389) ∧ Aside0 (Kd.R k37 37 wc w.heap.size (fun k_ => some k_ ≠ (v390 : Value).ownBlock ∧ k_ ≠ gb366) (.slice Ao46 y386.length co46) y386) ∧ Aside0 (wc.heap[gb366]? = some (.cells #[.int .i64 3, .int .i64 0, (.slice none 0 0)] 34 (0, 0))) ∧ Aside0 (wc.heap[gb370]? = some (.cells #[(.slice Ao46 y386.length co46), .int .i64 1] 24 (0, 0))) ∧ Aside0 (Below w.heap.size w wc))
              case first =>
                have H := HC38.out
                clear HC38
                by_cases c49 : a1 = true
                · subst c49
                  have H1 : (tidemilllaw16_CutSources.j2 kj23 true t365 (wrap64 (Int.tmod a0 8)) t389 t392 2 y386 1) = some r := by rw [if_pos rfl] at H; exact H
                  clear H
                  have H := H1
                  clear H1
                  have H' := Aside0.mk H
                  clear H
                  go_wp2
                  go_meet
                  case rel => exact ⟨_, (2), (by first | rfl | (simp; done) | (simp [*]; done)), H', ⟨by have := HK1.out; have := HJ23.out; first | omega | exact Nat.le_refl _⟩, ⟨by (with_reducible repeat (first | apply Kd.R_alloc | apply Kd.R_drewN | apply Kd.R_drew)); exact HO391.out⟩, ⟨by (with_reducible repeat (first | apply Kd.R_alloc | apply Kd.R_drewN | apply Kd.R_drew)); exact Kd.R_mono HO388.out (fun _ hk => ⟨hk.2, hk.1⟩)⟩, ⟨by (with_reducible repeat (first | refine blk_drewN ?_ _ | refine blk_drew ?_ | refine blk_alloc ?_ _)); exact BK366.out⟩, ⟨by (with_reducible repeat (first | refine blk_drewN ?_ _ | refine blk_drew ?_ | refine blk_alloc ?_ _)); exact BK370.out⟩, ⟨by repeat (first | (with_reducible first | exact HB.out | apply below_alloc | apply pw_below_drewN | apply below_drew1 | refine below_set ?_ GE366.out | refine below_set ?_ GE370.out) | exact HB.out)⟩⟩
                · replace c49 := Bool.eq_false_iff.mpr c49
                  subst c49
                  have H1 : (tidemilllaw16_CutSources.j2 kj23 false t365 (wrap64 (Int.tmod a0 8)) t389 t392 1 y386 1) = some r := by rw [if_neg (show ¬ (false = true) by decide)] at H; exact H
                  clear H
                  have H := H1
                  clear H1
                  have H' := Aside0.mk H
                  clear H
                  go_wp2
                  go_meet
                  case rel => exact ⟨_, (1), (by first | rfl | (simp; done) | (simp [*]; done)), H', ⟨by have := HK1.out; have := HJ23.out; first | omega | exact Nat.le_refl _⟩, ⟨by (with_reducible repeat (first | apply Kd.R_alloc | apply Kd.R_drewN | apply Kd.R_drew)); exact HO391.out⟩, ⟨by (with_reducible repeat (first | apply Kd.R_alloc | apply Kd.R_drewN | apply Kd.R_drew)); exact Kd.R_mono HO388.out (fun _ hk => ⟨hk.2, hk.1⟩)⟩, ⟨by (with_reducible repeat (first | refine blk_drewN ?_ _ | refine blk_drew ?_ | refine blk_alloc ?_ _)); exact BK366.out⟩, ⟨by (with_reducible repeat (first | refine blk_drewN ?_ _ | refine blk_drew ?_ | refine blk_alloc ?_ _)); exact BK370.out⟩, ⟨by repeat (first | (with_reducible first | exact HB.out | apply below_alloc | apply pw_below_drewN | apply below_drew1 | refine below_set ?_ GE366.out | refine below_set ?_ GE370.out) | exact HB.out)⟩⟩
              case rest =>
                clear HC38
                try clear c1
                try clear c2
                try clear p2
                try clear c3
                try clear c4
                try clear c6
                try clear p6
                try clear c9
                try clear c11
                try clear c13
                try clear c13b0
                try clear c14
                try clear c15
                try clear c25
                try clear c26
                try clear c27
                try clear c36
                try clear c39
                try clear c49
                try clear hcz12_0
                try clear hcz12_1
                try clear hcz16_0
                try clear hcz16_1
                try clear hcz19_0
                try clear hcz19_1
                try clear hcz19_2
                try clear hcz23_0
                try clear hcz23_1
                try clear hcz28_0
                try clear hcz28_1
                try clear hcz31_0
                try clear hcz31_1
                try clear hcz31_2
                try clear hcz35_0
                try clear hcz35_1
                try clear hcz40_0
                try clear hcz40_1
                try clear hcz47_0
                try clear hcz47_1
                try clear hcz6_0
                try clear hcz6_1
                try clear hcz6_2
                try clear hfz12_0
                try clear hfz12_1
                try clear hfz16_0
                try clear hfz16_1
                try clear hfz19_0
                try clear hfz19_1
                try clear hfz19_2
                try clear hfz23_0
                try clear hfz23_1
                try clear hfz28_0
                try clear hfz28_1
                try clear hfz31_0
                try clear hfz31_1
                try clear hfz31_2
                try clear hfz35_0
                try clear hfz35_1
                try clear hfz40_0
                try clear hfz40_1
                try clear hfz47_0
                try clear hfz47_1
                try clear hfz6_0
                try clear hfz6_1
                try clear hfz6_2
                try clear p2
                try clear p6
                obtain ⟨kq, x12_37, rfl, HA, HJ37, HO_10, HO_371000, BK366, BK370, HB⟩ := hcut
                cases kq with
                | zero => exact absurd HA.out (by simp [tidemilllaw16_CutSources.j2])
                | succ kj37 =>
                  have H := HA.out
                  clear HA
                  simp only [tidemilllaw16_CutSources.j2] at H
                  have HC50 := Aside0.mk H
                  clear H
                  go_upto_region 16 with (fail)
                  go_cut [94] (fun v94 wc => ∃ (kq : Nat) (x94_49 : Bool), v94 = .bool x94_49 ∧ Aside0 (tidemilllaw16_CutSources.j3 kq a1 t365 (wrap64 (Int.tmod a0 8)) x94_49 y386 1 = some r) ∧ Aside0 (kq ≤ kj37) ∧ Aside0 (Kd.R k37 37 wc w.heap.size (fun k_ => k_ ≠ gb366) (.slice Ao46 y386.length co46) y386) ∧ Aside0 (wc.heap[gb366]? = some (.cells #[.int .i64 3, .int .i64 0, (.slice none 0 0)] 34 (0, 0))) ∧ Aside0 (wc.heap[gb370]? = some (.cells #[(.slice Ao46 y386.length co46), .int .i64 1] 24 (0, 0))) ∧ Aside0 (Below w.heap.size w wc))
                  case first =>
                    have H := HC50.out
                    clear HC50
                    by_cases c51 : t392 = 0
                    · rw [if_pos c51] at H
                      have c51b0 : (t392 == 0) = true := beq_iff_eq.mpr c51
                      have c51b1 : (t392 != 0) = false := bne_eq_false_iff_eq.mpr c51
                      clear c51
                      (first | rw [c51b0] | (simp only [i64_w, i32_w]; rw [c51b0]) | skip)
                      by_cases c52 : (t389.length : Int) = (y386.length : Int)
                      · rw [if_pos c52] at H
                        have c52b0 : ((t389.length : Int) == (y386.length : Int)) = true := beq_iff_eq.mpr c52
                        have c52b1 : ((t389.length : Int) != (y386.length : Int)) = false := bne_eq_false_iff_eq.mpr c52
                        have c52b2 : (t389.length == y386.length) = true := by first | simpa using c52 | (simp at c52 ⊢; omega)
                        clear c52
                        replace H := Option.bind_eq_some_iff.mp H
                        obtain ⟨t393, A530, H⟩ := H
                        replace H : (if t393 = x12_37 then (if 0 < (t389.length : Int) then (if (rd t389 0) = 0 then (if 0 ≤ (wrap64 ((t389.length : Int) - 1)) then (if (wrap64 ((t389.length : Int) - 1)) < (t389.length : Int) then (tidemilllaw16_CutSources.j3 kj37 a1 t365 (wrap64 (Int.tmod a0 8)) ((rd t389 (wrap64 ((t389.length : Int) - 1))) != (wrap64 (x12_37 - 1))) y386 1) else (none)) else (none)) else (tidemilllaw16_CutSources.j3 kj37 a1 t365 (wrap64 (Int.tmod a0 8)) true y386 1)) else (none)) else (tidemilllaw16_CutSources.j3 kj37 a1 t365 (wrap64 (Int.tmod a0 8)) true y386 1)) = some r := H
                        have A53 := Aside0.mk A530
                        clear A530
                        by_cases c54 : t393 = x12_37
                        · rw [if_pos c54] at H
                          have c54b0 : (t393 == x12_37) = true := beq_iff_eq.mpr c54
                          have c54b1 : (t393 != x12_37) = false := bne_eq_false_iff_eq.mpr c54
                          clear c54
                          by_cases c55 : 0 < (t389.length : Int)
                          · rw [if_pos c55] at H
                            have c55b0 : decide (0 < (t389.length : Int)) = true := decide_eq_true c55
                            have c55b1 : decide (0 < t389.length) = true := decide_eq_true (by omega)
                            clear c55
                            by_cases c56 : (rd t389 0) = 0
                            · rw [if_pos c56] at H
                              have c56b0 : ((rd t389 0) == 0) = true := beq_iff_eq.mpr c56
                              have c56b1 : ((rd t389 0) != 0) = false := bne_eq_false_iff_eq.mpr c56
                              clear c56
                              obtain ⟨ji57, hji57⟩ : ∃ j_ : Int, (wrap64 ((t389.length : Int) - 1)) = j_ := ⟨_, rfl⟩
                              replace H : (if 0 ≤ (ji57) then (if (ji57) < (t389.length : Int) then (tidemilllaw16_CutSources.j3 kj37 a1 t365 (wrap64 (Int.tmod a0 8)) ((rd t389 (ji57)) != (wrap64 (x12_37 - 1))) y386 1) else (none)) else (none)) = some r := by first | (rw [hji57] at H; exact H) | (simp only [hji57] at H ⊢; exact H)
                              (try rw [hji57] at A53)
                              have hji57w : (IntKind.i64.wrap ((t389.length : Int) - 1)) = ji57 := (i64_w _).trans hji57
                              by_cases c58 : 0 ≤ (ji57)
                              · rw [if_pos c58] at H
                                have c58b0 : decide (0 ≤ (ji57)) = true := decide_eq_true c58
                                clear c58
                                by_cases c59 : (ji57) < (t389.length : Int)
                                · rw [if_pos c59] at H
                                  have c59b0 : decide ((ji57) < (t389.length : Int)) = true := decide_eq_true c59
                                  clear c59
                                  have H' := Aside0.mk H
                                  clear H
                                  obtain ⟨Ao60, co60, eo60⟩ := Kd.R_slice HO_10.out
                                  subst eo60
                                  have hnb61 := NB370_366.out
                                  have hnc61 := NB366_370.out
                                  have hcz62_0 : wc.cell? ⟨gb370, 0, none⟩ = some (.slice Ao46 y386.length co46) := (blk_cell BK370.out 0).trans rfl
                                  have hcz62_1 : wc.cell? ⟨gb370, 1, none⟩ = some (.int .i64 1) := (blk_cell BK370.out 1).trans rfl
                                  have hfz62_0 := blk_frozen BK370.out 0
                                  have hfz62_1 := blk_frozen BK370.out 1
                                  go_wp2_with (first | (go_at_call 14; (with_reducible refine (cut_Tasks.calls _ _ y386 1 t393 _ ?side1 ?side2 A53.out).mono ?_); (case side1 => repeat (first | exact (Kd.R_reads' HO_371000.out).2.2 | (with_reducible refine Kd.C_alloc ?_ _) | (with_reducible refine Kd.C_drewN ?_ _) | (with_reducible refine Kd.C_drew ?_))); (case side2 => exact (Kd.R_reads' HO_371000.out).2.1); rintro e w63 ⟨rfl, hb⟩; have n0_ := Aside0.mk (Kd.R_below (by (with_reducible repeat (first | apply Kd.R_alloc | apply Kd.R_drewN | apply Kd.R_drew)); exact HO_10.out) hb); have n1_ := Aside0.mk (Kd.R_below (by (with_reducible repeat (first | apply Kd.R_alloc | apply Kd.R_drewN | apply Kd.R_drew)); exact HO_371000.out) hb); have n2_ := Aside0.mk (blk_below (g := gb366) (o := .cells #[.int .i64 3, .int .i64 0, .slice none 0 0] 34 (0, 0)) (by (with_reducible repeat (first | refine blk_drewN ?_ _ | refine blk_drew ?_ | refine blk_alloc ?_ _)); exact BK366.out) hb); have n3_ := Aside0.mk (blk_below (g := gb370) (o := .cells #[.slice Ao46 y386.length co46, .int .i64 1] 24 (0, 0)) (by (with_reducible repeat (first | refine blk_drewN ?_ _ | refine blk_drew ?_ | refine blk_alloc ?_ _)); exact BK370.out) hb); have n4_ := Aside0.mk (below_step (by repeat (first | (with_reducible first | exact HB.out | apply below_alloc | apply pw_below_drewN | apply below_drew1 | refine below_set ?_ GE366.out | refine below_set ?_ GE370.out) | exact HB.out)) hb); clear HO_10; clear HO_371000; clear BK366; clear BK370; clear HB; have HO_10 := n0_; have HO_371000 := n1_; have BK366 := n2_; have BK370 := n3_; have HB := n4_; clear n0_ n1_ n2_ n3_ n4_; (try clear hb); (try clear hb2); (try clear hk); (try clear hi); have p394 : 0 ≤ (0 : Int) := (by omega); have q394 : 0 < (t389.length : Int) := of_decide_eq_true (by first | (with_reducible assumption) | assumption); obtain ⟨ad394, e394, hx394_0⟩ := Kd.at_int (Kd.R_reads' HO_10.out).2.2 0 p394 q394; cases e394; have qi394 : (0 < t389.length) = True := eq_true (by omega); (try rw [show ((0 : Int)).toNat = 0 from rfl] at hx394_0); (try rw [Addr.add_zero'] at hx394_0); replace p394 := eq_true p394; replace q394 := eq_true q394; have p395 : 0 ≤ ((ji57) : Int) := of_decide_eq_true (by first | (with_reducible assumption) | assumption); have q395 : (ji57) < (t389.length : Int) := of_decide_eq_true (by first | (with_reducible assumption) | assumption); obtain ⟨ad395, e395, hx395_0⟩ := Kd.at_int (Kd.R_reads' HO_10.out).2.2 (ji57) p395 q395; obtain rfl : ad394 = ad395 := (by injection e395); replace p395 := eq_true p395; replace q395 := eq_true q395))
                                  go_meet
                                  case rel => exact ⟨_, (((rd t389 (ji57)) != (wrap64 (x12_37 - 1)))), (by first | rfl | (simp; done) | (simp only [← hji57] <;> (first | rfl | simp)) | (simp [*]; done)), H', ⟨by have := HK1.out; have := HJ23.out; have := HJ37.out; first | omega | exact Nat.le_refl _⟩, ⟨by (with_reducible repeat (first | apply Kd.R_alloc | apply Kd.R_drewN | apply Kd.R_drew)); exact Kd.R_mono HO_371000.out (fun _ hk => hk.2)⟩, ⟨by (with_reducible repeat (first | refine blk_drewN ?_ _ | refine blk_drew ?_ | refine blk_alloc ?_ _)); exact BK366.out⟩, ⟨by (with_reducible repeat (first | refine blk_drewN ?_ _ | refine blk_drew ?_ | refine blk_alloc ?_ _)); exact BK370.out⟩, ⟨by repeat (first | (with_reducible first | exact HB.out | apply below_alloc | apply pw_below_drewN | apply below_drew1 | refine below_set ?_ GE366.out | refine below_set ?_ GE370.out) | exact HB.out)⟩⟩
                                · rw [if_neg c59] at H
                                  exact absurd H (by simp)
                              · rw [if_neg c58] at H
                                exact absurd H (by simp)
                            · rw [if_neg c56] at H
                              have c56b0 : ((rd t389 0) == 0) = false := beq_eq_false_iff_ne.mpr c56
                              have c56b1 : ((rd t389 0) != 0) = true := bne_iff_ne.mpr c56
                              have H' := Aside0.mk H
                              clear H
                              obtain ⟨Ao64, co64, eo64⟩ := Kd.R_slice HO_10.out
                              subst eo64
                              have hnb65 := NB370_366.out
                              have hnc65 := NB366_370.out
                              have hcz66_0 : wc.cell? ⟨gb370, 0, none⟩ = some (.slice Ao46 y386.length co46) := (blk_cell BK370.out 0).trans rfl
                              have hcz66_1 : wc.cell? ⟨gb370, 1, none⟩ = some (.int .i64 1) := (blk_cell BK370.out 1).trans rfl
                              have hfz66_0 := blk_frozen BK370.out 0
                              have hfz66_1 := blk_frozen BK370.out 1
                              go_wp2_with (first | (go_at_call 14; (with_reducible refine (cut_Tasks.calls _ _ y386 1 t393 _ ?side1 ?side2 A53.out).mono ?_); (case side1 => repeat (first | exact (Kd.R_reads' HO_371000.out).2.2 | (with_reducible refine Kd.C_alloc ?_ _) | (with_reducible refine Kd.C_drewN ?_ _) | (with_reducible refine Kd.C_drew ?_))); (case side2 => exact (Kd.R_reads' HO_371000.out).2.1); rintro e w67 ⟨rfl, hb⟩; have n0_ := Aside0.mk (Kd.R_below (by (with_reducible repeat (first | apply Kd.R_alloc | apply Kd.R_drewN | apply Kd.R_drew)); exact HO_10.out) hb); have n1_ := Aside0.mk (Kd.R_below (by (with_reducible repeat (first | apply Kd.R_alloc | apply Kd.R_drewN | apply Kd.R_drew)); exact HO_371000.out) hb); have n2_ := Aside0.mk (blk_below (g := gb366) (o := .cells #[.int .i64 3, .int .i64 0, .slice none 0 0] 34 (0, 0)) (by (with_reducible repeat (first | refine blk_drewN ?_ _ | refine blk_drew ?_ | refine blk_alloc ?_ _)); exact BK366.out) hb); have n3_ := Aside0.mk (blk_below (g := gb370) (o := .cells #[.slice Ao46 y386.length co46, .int .i64 1] 24 (0, 0)) (by (with_reducible repeat (first | refine blk_drewN ?_ _ | refine blk_drew ?_ | refine blk_alloc ?_ _)); exact BK370.out) hb); have n4_ := Aside0.mk (below_step (by repeat (first | (with_reducible first | exact HB.out | apply below_alloc | apply pw_below_drewN | apply below_drew1 | refine below_set ?_ GE366.out | refine below_set ?_ GE370.out) | exact HB.out)) hb); clear HO_10; clear HO_371000; clear BK366; clear BK370; clear HB; have HO_10 := n0_; have HO_371000 := n1_; have BK366 := n2_; have BK370 := n3_; have HB := n4_; clear n0_ n1_ n2_ n3_ n4_; (try clear hb); (try clear hb2); (try clear hk); (try clear hi); have p394 : 0 ≤ (0 : Int) := (by omega); have q394 : 0 < (t389.length : Int) := of_decide_eq_true (by first | (with_reducible assumption) | assumption); obtain ⟨ad394, e394, hx394_0⟩ := Kd.at_int (Kd.R_reads' HO_10.out).2.2 0 p394 q394; cases e394; have qi394 : (0 < t389.length) = True := eq_true (by omega); (try rw [show ((0 : Int)).toNat = 0 from rfl] at hx394_0); (try rw [Addr.add_zero'] at hx394_0); replace p394 := eq_true p394; replace q394 := eq_true q394))
                              go_meet
                              case rel => exact ⟨_, (true), (by first | rfl | (simp; done) | (simp [*]; done)), H', ⟨by have := HK1.out; have := HJ23.out; have := HJ37.out; first | omega | exact Nat.le_refl _⟩, ⟨by (with_reducible repeat (first | apply Kd.R_alloc | apply Kd.R_drewN | apply Kd.R_drew)); exact Kd.R_mono HO_371000.out (fun _ hk => hk.2)⟩, ⟨by (with_reducible repeat (first | refine blk_drewN ?_ _ | refine blk_drew ?_ | refine blk_alloc ?_ _)); exact BK366.out⟩, ⟨by (with_reducible repeat (first | refine blk_drewN ?_ _ | refine blk_drew ?_ | refine blk_alloc ?_ _)); exact BK370.out⟩, ⟨by repeat (first | (with_reducible first | exact HB.out | apply below_alloc | apply pw_below_drewN | apply below_drew1 | refine below_set ?_ GE366.out | refine below_set ?_ GE370.out) | exact HB.out)⟩⟩
                          · rw [if_neg c55] at H
                            exact absurd H (by simp)
                        · rw [if_neg c54] at H
                          have c54b0 : (t393 == x12_37) = false := beq_eq_false_iff_ne.mpr c54
                          have c54b1 : (t393 != x12_37) = true := bne_iff_ne.mpr c54
                          have H' := Aside0.mk H
                          clear H
                          obtain ⟨Ao68, co68, eo68⟩ := Kd.R_slice HO_10.out
                          subst eo68
                          have hnb69 := NB370_366.out
                          have hnc69 := NB366_370.out
                          have hcz70_0 : wc.cell? ⟨gb370, 0, none⟩ = some (.slice Ao46 y386.length co46) := (blk_cell BK370.out 0).trans rfl
                          have hcz70_1 : wc.cell? ⟨gb370, 1, none⟩ = some (.int .i64 1) := (blk_cell BK370.out 1).trans rfl
                          have hfz70_0 := blk_frozen BK370.out 0
                          have hfz70_1 := blk_frozen BK370.out 1
                          go_wp2_with (first | (go_at_call 14; (with_reducible refine (cut_Tasks.calls _ _ y386 1 t393 _ ?side1 ?side2 A53.out).mono ?_); (case side1 => repeat (first | exact (Kd.R_reads' HO_371000.out).2.2 | (with_reducible refine Kd.C_alloc ?_ _) | (with_reducible refine Kd.C_drewN ?_ _) | (with_reducible refine Kd.C_drew ?_))); (case side2 => exact (Kd.R_reads' HO_371000.out).2.1); rintro e w71 ⟨rfl, hb⟩; have n0_ := Aside0.mk (Kd.R_below (by (with_reducible repeat (first | apply Kd.R_alloc | apply Kd.R_drewN | apply Kd.R_drew)); exact HO_10.out) hb); have n1_ := Aside0.mk (Kd.R_below (by (with_reducible repeat (first | apply Kd.R_alloc | apply Kd.R_drewN | apply Kd.R_drew)); exact HO_371000.out) hb); have n2_ := Aside0.mk (blk_below (g := gb366) (o := .cells #[.int .i64 3, .int .i64 0, .slice none 0 0] 34 (0, 0)) (by (with_reducible repeat (first | refine blk_drewN ?_ _ | refine blk_drew ?_ | refine blk_alloc ?_ _)); exact BK366.out) hb); have n3_ := Aside0.mk (blk_below (g := gb370) (o := .cells #[.slice Ao46 y386.length co46, .int .i64 1] 24 (0, 0)) (by (with_reducible repeat (first | refine blk_drewN ?_ _ | refine blk_drew ?_ | refine blk_alloc ?_ _)); exact BK370.out) hb); have n4_ := Aside0.mk (below_step (by repeat (first | (with_reducible first | exact HB.out | apply below_alloc | apply pw_below_drewN | apply below_drew1 | refine below_set ?_ GE366.out | refine below_set ?_ GE370.out) | exact HB.out)) hb); clear HO_10; clear HO_371000; clear BK366; clear BK370; clear HB; have HO_10 := n0_; have HO_371000 := n1_; have BK366 := n2_; have BK370 := n3_; have HB := n4_; clear n0_ n1_ n2_ n3_ n4_; (try clear hb); (try clear hb2); (try clear hk); (try clear hi)))
                          go_meet
                          case rel => exact ⟨_, (true), (by first | rfl | (simp; done) | (simp [*]; done)), H', ⟨by have := HK1.out; have := HJ23.out; have := HJ37.out; first | omega | exact Nat.le_refl _⟩, ⟨by (with_reducible repeat (first | apply Kd.R_alloc | apply Kd.R_drewN | apply Kd.R_drew)); exact Kd.R_mono HO_371000.out (fun _ hk => hk.2)⟩, ⟨by (with_reducible repeat (first | refine blk_drewN ?_ _ | refine blk_drew ?_ | refine blk_alloc ?_ _)); exact BK366.out⟩, ⟨by (with_reducible repeat (first | refine blk_drewN ?_ _ | refine blk_drew ?_ | refine blk_alloc ?_ _)); exact BK370.out⟩, ⟨by repeat (first | (with_reducible first | exact HB.out | apply below_alloc | apply pw_below_drewN | apply below_drew1 | refine below_set ?_ GE366.out | refine below_set ?_ GE370.out) | exact HB.out)⟩⟩
                      · rw [if_neg c52] at H
                        have c52b0 : ((t389.length : Int) == (y386.length : Int)) = false := beq_eq_false_iff_ne.mpr c52
                        have c52b1 : ((t389.length : Int) != (y386.length : Int)) = true := bne_iff_ne.mpr c52
                        have c52b2 : (t389.length == y386.length) = false := by first | simpa using c52 | (simp at c52 ⊢; omega)
                        have H' := Aside0.mk H
                        clear H
                        obtain ⟨Ao72, co72, eo72⟩ := Kd.R_slice HO_10.out
                        subst eo72
                        have hnb73 := NB370_366.out
                        have hnc73 := NB366_370.out
                        have hcz74_0 : wc.cell? ⟨gb370, 0, none⟩ = some (.slice Ao46 y386.length co46) := (blk_cell BK370.out 0).trans rfl
                        have hcz74_1 : wc.cell? ⟨gb370, 1, none⟩ = some (.int .i64 1) := (blk_cell BK370.out 1).trans rfl
                        have hfz74_0 := blk_frozen BK370.out 0
                        have hfz74_1 := blk_frozen BK370.out 1
                        go_wp2
                        go_meet
                        case rel => exact ⟨_, (true), (by first | rfl | (simp; done) | (simp [*]; done)), H', ⟨by have := HK1.out; have := HJ23.out; have := HJ37.out; first | omega | exact Nat.le_refl _⟩, ⟨by (with_reducible repeat (first | apply Kd.R_alloc | apply Kd.R_drewN | apply Kd.R_drew)); exact Kd.R_mono HO_371000.out (fun _ hk => hk.2)⟩, ⟨by (with_reducible repeat (first | refine blk_drewN ?_ _ | refine blk_drew ?_ | refine blk_alloc ?_ _)); exact BK366.out⟩, ⟨by (with_reducible repeat (first | refine blk_drewN ?_ _ | refine blk_drew ?_ | refine blk_alloc ?_ _)); exact BK370.out⟩, ⟨by repeat (first | (with_reducible first | exact HB.out | apply below_alloc | apply pw_below_drewN | apply below_drew1 | refine below_set ?_ GE366.out | refine below_set ?_ GE370.out) | exact HB.out)⟩⟩
                    · rw [if_neg c51] at H
                      have c51b0 : (t392 == 0) = false := beq_eq_false_iff_ne.mpr c51
                      have c51b1 : (t392 != 0) = true := bne_iff_ne.mpr c51
                      (first | rw [c51b0] | (simp only [i64_w, i32_w]; rw [c51b0]) | skip)
                      have H' := Aside0.mk H
                      clear H
                      go_wp2
                      go_meet
                      case rel => exact ⟨_, (true), (by first | rfl | (simp; done) | (simp [*]; done)), H', ⟨by have := HK1.out; have := HJ23.out; have := HJ37.out; first | omega | exact Nat.le_refl _⟩, ⟨by (with_reducible repeat (first | apply Kd.R_alloc | apply Kd.R_drewN | apply Kd.R_drew)); exact Kd.R_mono HO_371000.out (fun _ hk => hk.2)⟩, ⟨by (with_reducible repeat (first | refine blk_drewN ?_ _ | refine blk_drew ?_ | refine blk_alloc ?_ _)); exact BK366.out⟩, ⟨by (with_reducible repeat (first | refine blk_drewN ?_ _ | refine blk_drew ?_ | refine blk_alloc ?_ _)); exact BK370.out⟩, ⟨by repeat (first | (with_reducible first | exact HB.out | apply below_alloc | apply pw_below_drewN | apply below_drew1 | refine below_set ?_ GE366.out | refine below_set ?_ GE370.out) | exact HB.out)⟩⟩
                  case rest =>
                    clear HC50
                    try clear c1
                    try clear c2
                    try clear p2
                    try clear c3
                    try clear p3
                    try clear q3
                    try clear hx3
                    try clear qi3
                    try clear c4
                    try clear c5
                    try clear c6
                    try clear p6
                    try clear c7
                    try clear c9
                    try clear c11
                    try clear c13
                    try clear c13b0
                    try clear c14
                    try clear c15
                    try clear c25
                    try clear c26
                    try clear c27
                    try clear c36
                    try clear c39
                    try clear p39
                    try clear q39
                    try clear hx39
                    try clear qi39
                    try clear c49
                    try clear c51
                    try clear c51b0
                    try clear c51b1
                    try clear c52
                    try clear c52b0
                    try clear c52b1
                    try clear c52b2
                    try clear c54
                    try clear c54b0
                    try clear c54b1
                    try clear c55
                    try clear c55b0
                    try clear c55b1
                    try clear c56
                    try clear c56b0
                    try clear c56b1
                    try clear c58
                    try clear c58b0
                    try clear c59
                    try clear c59b0
                    try clear c61
                    try clear p64
                    try clear c65
                    try clear c69
                    try clear c73
                    try clear hcz12_0
                    try clear hcz12_1
                    try clear hcz16_0
                    try clear hcz16_1
                    try clear hcz19_0
                    try clear hcz19_1
                    try clear hcz19_2
                    try clear hcz23_0
                    try clear hcz23_1
                    try clear hcz28_0
                    try clear hcz28_1
                    try clear hcz31_0
                    try clear hcz31_1
                    try clear hcz31_2
                    try clear hcz35_0
                    try clear hcz35_1
                    try clear hcz40_0
                    try clear hcz40_1
                    try clear hcz47_0
                    try clear hcz47_1
                    try clear hcz62_0
                    try clear hcz62_1
                    try clear hcz66_0
                    try clear hcz66_1
                    try clear hcz6_0
                    try clear hcz6_1
                    try clear hcz6_2
                    try clear hcz70_0
                    try clear hcz70_1
                    try clear hcz74_0
                    try clear hcz74_1
                    try clear hfz12_0
                    try clear hfz12_1
                    try clear hfz16_0
                    try clear hfz16_1
                    try clear hfz19_0
                    try clear hfz19_1
                    try clear hfz19_2
                    try clear hfz23_0
                    try clear hfz23_1
                    try clear hfz28_0
                    try clear hfz28_1
                    try clear hfz31_0
                    try clear hfz31_1
                    try clear hfz31_2
                    try clear hfz35_0
                    try clear hfz35_1
                    try clear hfz40_0
                    try clear hfz40_1
                    try clear hfz47_0
                    try clear hfz47_1
                    try clear hfz62_0
                    try clear hfz62_1
                    try clear hfz66_0
                    try clear hfz66_1
                    try clear hfz6_0
                    try clear hfz6_1
                    try clear hfz6_2
                    try clear hfz70_0
                    try clear hfz70_1
                    try clear hfz74_0
                    try clear hfz74_1
                    try clear hx394_0
                    try clear hx395_0
                    try clear p2
                    try clear p394
                    try clear p395
                    try clear p6
                    try clear q394
                    try clear q395
                    obtain ⟨kq, x94_49, rfl, HA, HJ49, HO_371000, BK366, BK370, HB⟩ := hcut
                    cases kq with
                    | zero => exact absurd HA.out (by simp [tidemilllaw16_CutSources.j3])
                    | succ kj49 =>
                      have H := HA.out
                      clear HA
                      simp only [tidemilllaw16_CutSources.j3] at H
                      by_cases c75 : x94_49 = true
                      · subst c75
                        have H1 : (some false) = some r := by rw [if_pos rfl] at H; exact H
                        clear H
                        have H := H1
                        clear H1
                        obtain rfl := Option.some.inj H
                        go_wp2
                        go_ret
                        exact ⟨by first | rfl | (simp [errW_none, errW_some] <;> rfl) | (simp [*, errW_none, errW_some] <;> rfl), by repeat (first | (with_reducible first | exact HB.out | apply below_alloc | apply pw_below_drewN | apply below_drew1 | refine below_set ?_ GE366.out | refine below_set ?_ GE370.out) | exact HB.out)⟩
                      · replace c75 := Bool.eq_false_iff.mpr c75
                        subst c75
                        have H1 : (if t365 = true then ((cut_Inputs.f y386 1 0).bind fun t396 => ((tidemillref01_Same.f kj49 t396 (([0] : List Int))).bind fun t402 => (if t402 = true then (if a1 = true then ((cut_Inputs.f y386 1 1).bind fun t403 => ((tidemillref01_Same.f kj49 t403 (([wrap64 ((wrap64 (Int.tmod a0 8)) + 1)] : List Int))).bind fun t409 => (some t409))) else (some true)) else (some false)))) else (some false)) = some r := by rw [if_neg (show ¬ (false = true) by decide)] at H; exact H
                        clear H
                        have H := H1
                        clear H1
                        by_cases c76 : t365 = true
                        · subst c76
                          have H1 : ((cut_Inputs.f y386 1 0).bind fun t396 => ((tidemillref01_Same.f kj49 t396 (([0] : List Int))).bind fun t402 => (if t402 = true then (if a1 = true then ((cut_Inputs.f y386 1 1).bind fun t403 => ((tidemillref01_Same.f kj49 t403 (([wrap64 ((wrap64 (Int.tmod a0 8)) + 1)] : List Int))).bind fun t409 => (some t409))) else (some true)) else (some false)))) = some r := by rw [if_pos rfl] at H; exact H
                          clear H
                          have H := H1
                          clear H1
                          replace H := Option.bind_eq_some_iff.mp H
                          obtain ⟨t396, A770, H⟩ := H
                          replace H : ((tidemillref01_Same.f kj49 t396 (([0] : List Int))).bind fun t402 => (if t402 = true then (if a1 = true then ((cut_Inputs.f y386 1 1).bind fun t403 => ((tidemillref01_Same.f kj49 t403 (([wrap64 ((wrap64 (Int.tmod a0 8)) + 1)] : List Int))).bind fun t409 => (some t409))) else (some true)) else (some false))) = some r := H
                          have A77 := Aside0.mk A770
                          clear A770
                          obtain ⟨y399, hy399⟩ : ∃ y_ : List Int, y_ = (([0] : List Int)) := ⟨_, rfl⟩
                          replace H : ((tidemillref01_Same.f kj49 t396 y399).bind fun t402 => (if t402 = true then (if a1 = true then ((cut_Inputs.f y386 1 1).bind fun t403 => ((tidemillref01_Same.f kj49 t403 (([wrap64 ((wrap64 (Int.tmod a0 8)) + 1)] : List Int))).bind fun t409 => (some t409))) else (some true)) else (some false))) = some r := by first | (rw [hy399]; with_reducible exact H) | (have H2_ := (Option.bind_some _ _).symm.trans H; rw [hy399]; with_reducible exact H2_) | (have H2_ := (Option.bind_some _ _).symm.trans H; with_reducible exact H2_) | with_reducible exact H | (rw [hy399]; exact H) | exact H
                          have Ny399 := Aside0.mk hy399
                          clear hy399
                          replace H := Option.bind_eq_some_iff.mp H
                          obtain ⟨t402, A780, H⟩ := H
                          replace H : (if t402 = true then (if a1 = true then ((cut_Inputs.f y386 1 1).bind fun t403 => ((tidemillref01_Same.f kj49 t403 (([wrap64 ((wrap64 (Int.tmod a0 8)) + 1)] : List Int))).bind fun t409 => (some t409))) else (some true)) else (some false)) = some r := H
                          have A78 := Aside0.mk A780
                          clear A780
                          by_cases c79 : t402 = true
                          · subst c79
                            have H1 : (if a1 = true then ((cut_Inputs.f y386 1 1).bind fun t403 => ((tidemillref01_Same.f kj49 t403 (([wrap64 ((wrap64 (Int.tmod a0 8)) + 1)] : List Int))).bind fun t409 => (some t409))) else (some true)) = some r := by rw [if_pos rfl] at H; exact H
                            clear H
                            have H := H1
                            clear H1
                            by_cases c80 : a1 = true
                            · subst c80
                              have H1 : ((cut_Inputs.f y386 1 1).bind fun t403 => ((tidemillref01_Same.f kj49 t403 (([wrap64 ((wrap64 (Int.tmod a0 8)) + 1)] : List Int))).bind fun t409 => (some t409))) = some r := by rw [if_pos rfl] at H; exact H
                              clear H
                              have H := H1
                              clear H1
                              replace H := Option.bind_eq_some_iff.mp H
                              obtain ⟨t403, A810, H⟩ := H
                              replace H : ((tidemillref01_Same.f kj49 t403 (([wrap64 ((wrap64 (Int.tmod a0 8)) + 1)] : List Int))).bind fun t409 => (some t409)) = some r := H
                              have A81 := Aside0.mk A810
                              clear A810
                              obtain ⟨y406, hy406⟩ : ∃ y_ : List Int, y_ = (([wrap64 ((wrap64 (Int.tmod a0 8)) + 1)] : List Int)) := ⟨_, rfl⟩
                              replace H : ((tidemillref01_Same.f kj49 t403 y406).bind fun t409 => (some t409)) = some r := by first | (rw [hy406]; with_reducible exact H) | (have H2_ := (Option.bind_some _ _).symm.trans H; rw [hy406]; with_reducible exact H2_) | (have H2_ := (Option.bind_some _ _).symm.trans H; with_reducible exact H2_) | with_reducible exact H | (rw [hy406]; exact H) | exact H
                              have Ny406 := Aside0.mk hy406
                              clear hy406
                              replace H := Option.bind_eq_some_iff.mp H
                              obtain ⟨t409, A820, H⟩ := H
                              replace H : (some t409) = some r := H
                              have A82 := Aside0.mk A820
                              clear A820
                              obtain rfl := Option.some.inj H
                              have hnb83 := NB370_366.out
                              have hnc83 := NB366_370.out
                              have hcz84_0 : wc.cell? ⟨gb370, 0, none⟩ = some (.slice Ao46 y386.length co46) := (blk_cell BK370.out 0).trans rfl
                              have hcz84_1 : wc.cell? ⟨gb370, 1, none⟩ = some (.int .i64 1) := (blk_cell BK370.out 1).trans rfl
                              have hfz84_0 := blk_frozen BK370.out 0
                              have hfz84_1 := blk_frozen BK370.out 1
                              go_wp2_with (first | (go_at_call 16; (with_reducible refine (cut_Inputs.calls _ _ y386 1 0 t396 _ ?side1 ?side2 A77.out).mono ?_); (case side1 => repeat (first | exact (Kd.R_reads' HO_371000.out).2.2 | (with_reducible refine Kd.C_alloc ?_ _) | (with_reducible refine Kd.C_drewN ?_ _) | (with_reducible refine Kd.C_drew ?_))); (case side2 => exact (Kd.R_reads' HO_371000.out).2.1); rintro e w85 ⟨v397, rfl, ho0, hb⟩; have n0_ := Aside0.mk (Kd.R_elder' (by (with_reducible repeat (first | apply Kd.R_alloc | apply Kd.R_drewN | apply Kd.R_drew)); exact HO_371000.out) (Kd.R_base ho0) hb); have n1_ := Aside0.mk (Kd.R_lower ho0 (below_size (by repeat (first | (with_reducible first | exact HB.out | apply below_alloc | apply pw_below_drewN | apply below_drew1 | refine below_set ?_ GE366.out | refine below_set ?_ GE370.out) | exact HB.out)))); have n2_ := Aside0.mk (blk_below (g := gb366) (o := .cells #[.int .i64 3, .int .i64 0, .slice none 0 0] 34 (0, 0)) (by (with_reducible repeat (first | refine blk_drewN ?_ _ | refine blk_drew ?_ | refine blk_alloc ?_ _)); exact BK366.out) hb); have n3_ := Aside0.mk (blk_below (g := gb370) (o := .cells #[.slice Ao46 y386.length co46, .int .i64 1] 24 (0, 0)) (by (with_reducible repeat (first | refine blk_drewN ?_ _ | refine blk_drew ?_ | refine blk_alloc ?_ _)); exact BK370.out) hb); have n4_ := Aside0.mk (below_step (by repeat (first | (with_reducible first | exact HB.out | apply below_alloc | apply pw_below_drewN | apply below_drew1 | refine below_set ?_ GE366.out | refine below_set ?_ GE370.out) | exact HB.out)) hb); clear HO_371000; clear BK366; clear BK370; clear HB; have HO_371000 := n0_; have HO398 := n1_; have BK366 := n2_; have BK370 := n3_; have HB := n4_; clear n0_ n1_ n2_ n3_ n4_; (try clear hb); (try clear hb2); (try clear hk); (try clear hi); (try clear ho0)) | ((with_reducible refine gate_dst (N := 99) rfl ?_); (try (refine gate_guard (by rfl) ?_; dsimp only)); refine Kd.R_lit (Kd.int .i64) _ 3 ?hg (N := 99) ?hd (xs := ([0] : List Int)) (inner := [.int .i64 0]) (ok := fun _ => True) (okp := fun _ => True) ?hr ?hp (fun _ hk => hk) trivial (Below.refl _ _) (Nat.le_refl _) (by simp) ?_; (case hd => rfl); (case hg => rfl); (case hr => first | (go_simp; done) | (go_simp; rfl)); (case hp => exact (Reps.one (show Kd.M (Kd.int .i64) _ _ _ 0 [.int .i64 0] from rfl) (Reps.none _ _))); intro v400 w86 ho87 hb hg_ hnew_; clear hg_ hnew_; (first | rw [← Ny399.out] at ho87 | (simp only [Int.reduceToNat] at ho87; rw [← Ny399.out] at ho87)); have n0_ := Aside0.mk (Kd.R_elder' (by (with_reducible repeat (first | apply Kd.R_alloc | apply Kd.R_drewN | apply Kd.R_drew)); exact HO_371000.out) (Kd.R_base ho87) hb); have n1_ := Aside0.mk (Kd.R_elder' (by (with_reducible repeat (first | apply Kd.R_alloc | apply Kd.R_drewN | apply Kd.R_drew)); exact HO398.out) (Kd.R_base ho87) hb); have n2_ := Aside0.mk (Kd.R_lower (Kd.R_new' ho87 (Kd.R_lt (by (with_reducible repeat (first | apply Kd.R_alloc | apply Kd.R_drewN | apply Kd.R_drew)); exact HO398.out))) (below_size (by repeat (first | (with_reducible first | exact HB.out | apply below_alloc | apply pw_below_drewN | apply below_drew1 | refine below_set ?_ GE366.out | refine below_set ?_ GE370.out) | exact HB.out)))); have n3_ := Aside0.mk (blk_below (g := gb366) (o := .cells #[.int .i64 3, .int .i64 0, .slice none 0 0] 34 (0, 0)) (by (with_reducible repeat (first | refine blk_drewN ?_ _ | refine blk_drew ?_ | refine blk_alloc ?_ _)); exact BK366.out) hb); have n4_ := Aside0.mk (blk_below (g := gb370) (o := .cells #[.slice Ao46 y386.length co46, .int .i64 1] 24 (0, 0)) (by (with_reducible repeat (first | refine blk_drewN ?_ _ | refine blk_drew ?_ | refine blk_alloc ?_ _)); exact BK370.out) hb); have n5_ := Aside0.mk (below_step (by repeat (first | (with_reducible first | exact HB.out | apply below_alloc | apply pw_below_drewN | apply below_drew1 | refine below_set ?_ GE366.out | refine below_set ?_ GE370.out) | exact HB.out)) hb); clear HO_371000; clear HO398; clear BK366; clear BK370; clear HB; have HO_371000 := n0_; have HO398 := n1_; have HO401 := n2_; have BK366 := n3_; have BK370 := n4_; have HB := n5_; clear n0_ n1_ n2_ n3_ n4_ n5_; clear hb ho87; obtain ⟨Ao88, co88, eo88⟩ := Kd.R_slice HO398.out; subst eo88; obtain ⟨Ao89, co89, eo89⟩ := Kd.R_slice HO401.out; subst eo89) | (go_at_call 15; (with_reducible refine (tidemillref01_Same.calls kj49 _ _ t396 _ _ y399 true _ ?side1 ?side2 ?side3 ?side4 A78.out).mono ?_); (case side1 => repeat (first | exact (Kd.R_reads' HO398.out).2.2 | (with_reducible refine Kd.C_alloc ?_ _) | (with_reducible refine Kd.C_drewN ?_ _) | (with_reducible refine Kd.C_drew ?_))); (case side2 => exact (Kd.R_reads' HO398.out).2.1); (case side3 => repeat (first | exact (Kd.R_reads' HO401.out).2.2 | (with_reducible refine Kd.C_alloc ?_ _) | (with_reducible refine Kd.C_drewN ?_ _) | (with_reducible refine Kd.C_drew ?_))); (case side4 => exact (Kd.R_reads' HO401.out).2.1); rintro e w' ⟨rfl, ⟨nd, rfl⟩⟩; have hcz90_0 : w86.cell? ⟨gb370, 0, none⟩ = some (.slice Ao46 y386.length co46) := (blk_cell BK370.out 0).trans rfl; have hcz90_1 : w86.cell? ⟨gb370, 1, none⟩ = some (.int .i64 1) := (blk_cell BK370.out 1).trans rfl; have hfz90_0 := blk_frozen BK370.out 0; have hfz90_1 := blk_frozen BK370.out 1) | (go_at_call 16; (with_reducible refine (cut_Inputs.calls _ _ y386 1 1 t403 _ ?side1 ?side2 A81.out).mono ?_); (case side1 => repeat (first | exact (Kd.R_reads' HO_371000.out).2.2 | (with_reducible refine Kd.C_alloc ?_ _) | (with_reducible refine Kd.C_drewN ?_ _) | (with_reducible refine Kd.C_drew ?_))); (case side2 => exact (Kd.R_reads' HO_371000.out).2.1); rintro e w91 ⟨v404, rfl, ho0, hb⟩; have n0_ := Aside0.mk (Kd.R_elder' (by (with_reducible repeat (first | apply Kd.R_alloc | apply Kd.R_drewN | apply Kd.R_drew)); exact HO_371000.out) (Kd.R_base ho0) hb); have n1_ := Aside0.mk (Kd.R_elder' (by (with_reducible repeat (first | apply Kd.R_alloc | apply Kd.R_drewN | apply Kd.R_drew)); exact HO398.out) (Kd.R_base ho0) hb); have n2_ := Aside0.mk (Kd.R_elder' (by (with_reducible repeat (first | apply Kd.R_alloc | apply Kd.R_drewN | apply Kd.R_drew)); exact HO401.out) (Kd.R_base ho0) hb); have n3_ := Aside0.mk (Kd.R_lower (Kd.R_new' (Kd.R_new' ho0 (Kd.R_lt (by (with_reducible repeat (first | apply Kd.R_alloc | apply Kd.R_drewN | apply Kd.R_drew)); exact HO398.out))) (Kd.R_lt (by (with_reducible repeat (first | apply Kd.R_alloc | apply Kd.R_drewN | apply Kd.R_drew)); exact HO401.out))) (below_size (by repeat (first | (with_reducible first | exact HB.out | apply below_alloc | apply pw_below_drewN | apply below_drew1 | refine below_set ?_ GE366.out | refine below_set ?_ GE370.out) | exact HB.out)))); have n4_ := Aside0.mk (blk_below (g := gb366) (o := .cells #[.int .i64 3, .int .i64 0, .slice none 0 0] 34 (0, 0)) (by (with_reducible repeat (first | refine blk_drewN ?_ _ | refine blk_drew ?_ | refine blk_alloc ?_ _)); exact BK366.out) hb); have n5_ := Aside0.mk (blk_below (g := gb370) (o := .cells #[.slice Ao46 y386.length co46, .int .i64 1] 24 (0, 0)) (by (with_reducible repeat (first | refine blk_drewN ?_ _ | refine blk_drew ?_ | refine blk_alloc ?_ _)); exact BK370.out) hb); have n6_ := Aside0.mk (below_step (by repeat (first | (with_reducible first | exact HB.out | apply below_alloc | apply pw_below_drewN | apply below_drew1 | refine below_set ?_ GE366.out | refine below_set ?_ GE370.out) | exact HB.out)) hb); clear HO_371000; clear HO398; clear HO401; clear BK366; clear BK370; clear HB; have HO_371000 := n0_; have HO398 := n1_; have HO401 := n2_; have HO405 := n3_; have BK366 := n4_; have BK370 := n5_; have HB := n6_; clear n0_ n1_ n2_ n3_ n4_ n5_ n6_; (try clear hb); (try clear hb2); (try clear hk); (try clear hi); (try clear ho0)) | ((with_reducible refine gate_dst (N := 110) rfl ?_); (try (refine gate_guard (by rfl) ?_; dsimp only)); refine Kd.R_lit (Kd.int .i64) _ 3 ?hg (N := 110) ?hd (xs := ([wrap64 ((wrap64 (Int.tmod a0 8)) + 1)] : List Int)) (inner := [.int .i64 (wrap64 ((wrap64 (Int.tmod a0 8)) + 1))]) (ok := fun _ => True) (okp := fun _ => True) ?hr ?hp (fun _ hk => hk) trivial (Below.refl _ _) (Nat.le_refl _) (by simp) ?_; (case hd => rfl); (case hg => rfl); (case hr => first | (go_simp; done) | (go_simp; rfl)); (case hp => exact (Reps.one (show Kd.M (Kd.int .i64) _ _ _ (wrap64 ((wrap64 (Int.tmod a0 8)) + 1)) [.int .i64 (wrap64 ((wrap64 (Int.tmod a0 8)) + 1))] from rfl) (Reps.none _ _))); intro v407 w92 ho93 hb hg_ hnew_; clear hg_ hnew_; (first | rw [← Ny406.out] at ho93 | (simp only [Int.reduceToNat] at ho93; rw [← Ny406.out] at ho93)); have n0_ := Aside0.mk (Kd.R_elder' (by (with_reducible repeat (first | apply Kd.R_alloc | apply Kd.R_drewN | apply Kd.R_drew)); exact HO_371000.out) (Kd.R_base ho93) hb); have n1_ := Aside0.mk (Kd.R_elder' (by (with_reducible repeat (first | apply Kd.R_alloc | apply Kd.R_drewN | apply Kd.R_drew)); exact HO398.out) (Kd.R_base ho93) hb); have n2_ := Aside0.mk (Kd.R_elder' (by (with_reducible repeat (first | apply Kd.R_alloc | apply Kd.R_drewN | apply Kd.R_drew)); exact HO401.out) (Kd.R_base ho93) hb); have n3_ := Aside0.mk (Kd.R_elder' (by (with_reducible repeat (first | apply Kd.R_alloc | apply Kd.R_drewN | apply Kd.R_drew)); exact HO405.out) (Kd.R_base ho93) hb); have n4_ := Aside0.mk (Kd.R_lower (Kd.R_new' (Kd.R_new' (Kd.R_new' ho93 (Kd.R_lt (by (with_reducible repeat (first | apply Kd.R_alloc | apply Kd.R_drewN | apply Kd.R_drew)); exact HO398.out))) (Kd.R_lt (by (with_reducible repeat (first | apply Kd.R_alloc | apply Kd.R_drewN | apply Kd.R_drew)); exact HO401.out))) (Kd.R_lt (by (with_reducible repeat (first | apply Kd.R_alloc | apply Kd.R_drewN | apply Kd.R_drew)); exact HO405.out))) (below_size (by repeat (first | (with_reducible first | exact HB.out | apply below_alloc | apply pw_below_drewN | apply below_drew1 | refine below_set ?_ GE366.out | refine below_set ?_ GE370.out) | exact HB.out)))); have n5_ := Aside0.mk (blk_below (g := gb366) (o := .cells #[.int .i64 3, .int .i64 0, .slice none 0 0] 34 (0, 0)) (by (with_reducible repeat (first | refine blk_drewN ?_ _ | refine blk_drew ?_ | refine blk_alloc ?_ _)); exact BK366.out) hb); have n6_ := Aside0.mk (blk_below (g := gb370) (o := .cells #[.slice Ao46 y386.length co46, .int .i64 1] 24 (0, 0)) (by (with_reducible repeat (first | refine blk_drewN ?_ _ | refine blk_drew ?_ | refine blk_alloc ?_ _)); exact BK370.out) hb); have n7_ := Aside0.mk (below_step (by repeat (first | (with_reducible first | exact HB.out | apply below_alloc | apply pw_below_drewN | apply below_drew1 | refine below_set ?_ GE366.out | refine below_set ?_ GE370.out) | exact HB.out)) hb); clear HO_371000; clear HO398; clear HO401; clear HO405; clear BK366; clear BK370; clear HB; have HO_371000 := n0_; have HO398 := n1_; have HO401 := n2_; have HO405 := n3_; have HO408 := n4_; have BK366 := n5_; have BK370 := n6_; have HB := n7_; clear n0_ n1_ n2_ n3_ n4_ n5_ n6_ n7_; clear hb ho93; obtain ⟨Ao94, co94, eo94⟩ := Kd.R_slice HO405.out; subst eo94; obtain ⟨Ao95, co95, eo95⟩ := Kd.R_slice HO408.out; subst eo95) | (go_at_call 15; (with_reducible refine (tidemillref01_Same.calls kj49 _ _ t403 _ _ y406 t409 _ ?side1 ?side2 ?side3 ?side4 A82.out).mono ?_); (case side1 => repeat (first | exact (Kd.R_reads' HO405.out).2.2 | (with_reducible refine Kd.C_alloc ?_ _) | (with_reducible refine Kd.C_drewN ?_ _) | (with_reducible refine Kd.C_drew ?_))); (case side2 => exact (Kd.R_reads' HO405.out).2.1); (case side3 => repeat (first | exact (Kd.R_reads' HO408.out).2.2 | (with_reducible refine Kd.C_alloc ?_ _) | (with_reducible refine Kd.C_drewN ?_ _) | (with_reducible refine Kd.C_drew ?_))); (case side4 => exact (Kd.R_reads' HO408.out).2.1); rintro e w' ⟨rfl, ⟨nd, rfl⟩⟩))
                              go_ret
                              exact ⟨by first | rfl | (simp [errW_none, errW_some] <;> rfl) | (simp [*, errW_none, errW_some] <;> rfl), by repeat (first | (with_reducible first | exact HB.out | apply below_alloc | apply pw_below_drewN | apply below_drew1 | refine below_set ?_ GE366.out | refine below_set ?_ GE370.out) | exact HB.out)⟩
                            · replace c80 := Bool.eq_false_iff.mpr c80
                              subst c80
                              have H1 : (some true) = some r := by rw [if_neg (show ¬ (false = true) by decide)] at H; exact H
                              clear H
                              have H := H1
                              clear H1
                              obtain rfl := Option.some.inj H
                              have hnb96 := NB370_366.out
                              have hnc96 := NB366_370.out
                              have hcz97_0 : wc.cell? ⟨gb370, 0, none⟩ = some (.slice Ao46 y386.length co46) := (blk_cell BK370.out 0).trans rfl
                              have hcz97_1 : wc.cell? ⟨gb370, 1, none⟩ = some (.int .i64 1) := (blk_cell BK370.out 1).trans rfl
                              have hfz97_0 := blk_frozen BK370.out 0
                              have hfz97_1 := blk_frozen BK370.out 1
                              go_wp2_with (first | (go_at_call 16; (with_reducible refine (cut_Inputs.calls _ _ y386 1 0 t396 _ ?side1 ?side2 A77.out).mono ?_); (case side1 => repeat (first | exact (Kd.R_reads' HO_371000.out).2.2 | (with_reducible refine Kd.C_alloc ?_ _) | (with_reducible refine Kd.C_drewN ?_ _) | (with_reducible refine Kd.C_drew ?_))); (case side2 => exact (Kd.R_reads' HO_371000.out).2.1); rintro e w98 ⟨v397, rfl, ho0, hb⟩; have n0_ := Aside0.mk (Kd.R_elder' (by (with_reducible repeat (first | apply Kd.R_alloc | apply Kd.R_drewN | apply Kd.R_drew)); exact HO_371000.out) (Kd.R_base ho0) hb); have n1_ := Aside0.mk (Kd.R_lower ho0 (below_size (by repeat (first | (with_reducible first | exact HB.out | apply below_alloc | apply pw_below_drewN | apply below_drew1 | refine below_set ?_ GE366.out | refine below_set ?_ GE370.out) | exact HB.out)))); have n2_ := Aside0.mk (blk_below (g := gb366) (o := .cells #[.int .i64 3, .int .i64 0, .slice none 0 0] 34 (0, 0)) (by (with_reducible repeat (first | refine blk_drewN ?_ _ | refine blk_drew ?_ | refine blk_alloc ?_ _)); exact BK366.out) hb); have n3_ := Aside0.mk (blk_below (g := gb370) (o := .cells #[.slice Ao46 y386.length co46, .int .i64 1] 24 (0, 0)) (by (with_reducible repeat (first | refine blk_drewN ?_ _ | refine blk_drew ?_ | refine blk_alloc ?_ _)); exact BK370.out) hb); have n4_ := Aside0.mk (below_step (by repeat (first | (with_reducible first | exact HB.out | apply below_alloc | apply pw_below_drewN | apply below_drew1 | refine below_set ?_ GE366.out | refine below_set ?_ GE370.out) | exact HB.out)) hb); clear HO_371000; clear BK366; clear BK370; clear HB; have HO_371000 := n0_; have HO398 := n1_; have BK366 := n2_; have BK370 := n3_; have HB := n4_; clear n0_ n1_ n2_ n3_ n4_; (try clear hb); (try clear hb2); (try clear hk); (try clear hi); (try clear ho0)) | ((with_reducible refine gate_dst (N := 99) rfl ?_); (try (refine gate_guard (by rfl) ?_; dsimp only)); refine Kd.R_lit (Kd.int .i64) _ 3 ?hg (N := 99) ?hd (xs := ([0] : List Int)) (inner := [.int .i64 0]) (ok := fun _ => True) (okp := fun _ => True) ?hr ?hp (fun _ hk => hk) trivial (Below.refl _ _) (Nat.le_refl _) (by simp) ?_; (case hd => rfl); (case hg => rfl); (case hr => first | (go_simp; done) | (go_simp; rfl)); (case hp => exact (Reps.one (show Kd.M (Kd.int .i64) _ _ _ 0 [.int .i64 0] from rfl) (Reps.none _ _))); intro v400 w99 ho100 hb hg_ hnew_; clear hg_ hnew_; (first | rw [← Ny399.out] at ho100 | (simp only [Int.reduceToNat] at ho100; rw [← Ny399.out] at ho100)); have n0_ := Aside0.mk (Kd.R_elder' (by (with_reducible repeat (first | apply Kd.R_alloc | apply Kd.R_drewN | apply Kd.R_drew)); exact HO_371000.out) (Kd.R_base ho100) hb); have n1_ := Aside0.mk (Kd.R_elder' (by (with_reducible repeat (first | apply Kd.R_alloc | apply Kd.R_drewN | apply Kd.R_drew)); exact HO398.out) (Kd.R_base ho100) hb); have n2_ := Aside0.mk (Kd.R_lower (Kd.R_new' ho100 (Kd.R_lt (by (with_reducible repeat (first | apply Kd.R_alloc | apply Kd.R_drewN | apply Kd.R_drew)); exact HO398.out))) (below_size (by repeat (first | (with_reducible first | exact HB.out | apply below_alloc | apply pw_below_drewN | apply below_drew1 | refine below_set ?_ GE366.out | refine below_set ?_ GE370.out) | exact HB.out)))); have n3_ := Aside0.mk (blk_below (g := gb366) (o := .cells #[.int .i64 3, .int .i64 0, .slice none 0 0] 34 (0, 0)) (by (with_reducible repeat (first | refine blk_drewN ?_ _ | refine blk_drew ?_ | refine blk_alloc ?_ _)); exact BK366.out) hb); have n4_ := Aside0.mk (blk_below (g := gb370) (o := .cells #[.slice Ao46 y386.length co46, .int .i64 1] 24 (0, 0)) (by (with_reducible repeat (first | refine blk_drewN ?_ _ | refine blk_drew ?_ | refine blk_alloc ?_ _)); exact BK370.out) hb); have n5_ := Aside0.mk (below_step (by repeat (first | (with_reducible first | exact HB.out | apply below_alloc | apply pw_below_drewN | apply below_drew1 | refine below_set ?_ GE366.out | refine below_set ?_ GE370.out) | exact HB.out)) hb); clear HO_371000; clear HO398; clear BK366; clear BK370; clear HB; have HO_371000 := n0_; have HO398 := n1_; have HO401 := n2_; have BK366 := n3_; have BK370 := n4_; have HB := n5_; clear n0_ n1_ n2_ n3_ n4_ n5_; clear hb ho100; obtain ⟨Ao101, co101, eo101⟩ := Kd.R_slice HO398.out; subst eo101; obtain ⟨Ao102, co102, eo102⟩ := Kd.R_slice HO401.out; subst eo102) | (go_at_call 15; (with_reducible refine (tidemillref01_Same.calls kj49 _ _ t396 _ _ y399 true _ ?side1 ?side2 ?side3 ?side4 A78.out).mono ?_); (case side1 => repeat (first | exact (Kd.R_reads' HO398.out).2.2 | (with_reducible refine Kd.C_alloc ?_ _) | (with_reducible refine Kd.C_drewN ?_ _) | (with_reducible refine Kd.C_drew ?_))); (case side2 => exact (Kd.R_reads' HO398.out).2.1); (case side3 => repeat (first | exact (Kd.R_reads' HO401.out).2.2 | (with_reducible refine Kd.C_alloc ?_ _) | (with_reducible refine Kd.C_drewN ?_ _) | (with_reducible refine Kd.C_drew ?_))); (case side4 => exact (Kd.R_reads' HO401.out).2.1); rintro e w' ⟨rfl, ⟨nd, rfl⟩⟩))
                              go_ret
                              exact ⟨by first | rfl | (simp [errW_none, errW_some] <;> rfl) | (simp [*, errW_none, errW_some] <;> rfl), by repeat (first | (with_reducible first | exact HB.out | apply below_alloc | apply pw_below_drewN | apply below_drew1 | refine below_set ?_ GE366.out | refine below_set ?_ GE370.out) | exact HB.out)⟩
                          · replace c79 := Bool.eq_false_iff.mpr c79
                            subst c79
                            have H1 : (some false) = some r := by rw [if_neg (show ¬ (false = true) by decide)] at H; exact H
                            clear H
                            have H := H1
                            clear H1
                            obtain rfl := Option.some.inj H
                            have hnb103 := NB370_366.out
                            have hnc103 := NB366_370.out
                            have hcz104_0 : wc.cell? ⟨gb370, 0, none⟩ = some (.slice Ao46 y386.length co46) := (blk_cell BK370.out 0).trans rfl
                            have hcz104_1 : wc.cell? ⟨gb370, 1, none⟩ = some (.int .i64 1) := (blk_cell BK370.out 1).trans rfl
                            have hfz104_0 := blk_frozen BK370.out 0
                            have hfz104_1 := blk_frozen BK370.out 1
                            go_wp2_with (first | (go_at_call 16; (with_reducible refine (cut_Inputs.calls _ _ y386 1 0 t396 _ ?side1 ?side2 A77.out).mono ?_); (case side1 => repeat (first | exact (Kd.R_reads' HO_371000.out).2.2 | (with_reducible refine Kd.C_alloc ?_ _) | (with_reducible refine Kd.C_drewN ?_ _) | (with_reducible refine Kd.C_drew ?_))); (case side2 => exact (Kd.R_reads' HO_371000.out).2.1); rintro e w105 ⟨v397, rfl, ho0, hb⟩; have n0_ := Aside0.mk (Kd.R_elder' (by (with_reducible repeat (first | apply Kd.R_alloc | apply Kd.R_drewN | apply Kd.R_drew)); exact HO_371000.out) (Kd.R_base ho0) hb); have n1_ := Aside0.mk (Kd.R_lower ho0 (below_size (by repeat (first | (with_reducible first | exact HB.out | apply below_alloc | apply pw_below_drewN | apply below_drew1 | refine below_set ?_ GE366.out | refine below_set ?_ GE370.out) | exact HB.out)))); have n2_ := Aside0.mk (blk_below (g := gb366) (o := .cells #[.int .i64 3, .int .i64 0, .slice none 0 0] 34 (0, 0)) (by (with_reducible repeat (first | refine blk_drewN ?_ _ | refine blk_drew ?_ | refine blk_alloc ?_ _)); exact BK366.out) hb); have n3_ := Aside0.mk (blk_below (g := gb370) (o := .cells #[.slice Ao46 y386.length co46, .int .i64 1] 24 (0, 0)) (by (with_reducible repeat (first | refine blk_drewN ?_ _ | refine blk_drew ?_ | refine blk_alloc ?_ _)); exact BK370.out) hb); have n4_ := Aside0.mk (below_step (by repeat (first | (with_reducible first | exact HB.out | apply below_alloc | apply pw_below_drewN | apply below_drew1 | refine below_set ?_ GE366.out | refine below_set ?_ GE370.out) | exact HB.out)) hb); clear HO_371000; clear BK366; clear BK370; clear HB; have HO_371000 := n0_; have HO398 := n1_; have BK366 := n2_; have BK370 := n3_; have HB := n4_; clear n0_ n1_ n2_ n3_ n4_; (try clear hb); (try clear hb2); (try clear hk); (try clear hi); (try clear ho0)) | ((with_reducible refine gate_dst (N := 99) rfl ?_); (try (refine gate_guard (by rfl) ?_; dsimp only)); refine Kd.R_lit (Kd.int .i64) _ 3 ?hg (N := 99) ?hd (xs := ([0] : List Int)) (inner := [.int .i64 0]) (ok := fun _ => True) (okp := fun _ => True) ?hr ?hp (fun _ hk => hk) trivial (Below.refl _ _) (Nat.le_refl _) (by simp) ?_; (case hd => rfl); (case hg => rfl); (case hr => first | (go_simp; done) | (go_simp; rfl)); (case hp => exact (Reps.one (show Kd.M (Kd.int .i64) _ _ _ 0 [.int .i64 0] from rfl) (Reps.none _ _))); intro v400 w106 ho107 hb hg_ hnew_; clear hg_ hnew_; (first | rw [← Ny399.out] at ho107 | (simp only [Int.reduceToNat] at ho107; rw [← Ny399.out] at ho107)); have n0_ := Aside0.mk (Kd.R_elder' (by (with_reducible repeat (first | apply Kd.R_alloc | apply Kd.R_drewN | apply Kd.R_drew)); exact HO_371000.out) (Kd.R_base ho107) hb); have n1_ := Aside0.mk (Kd.R_elder' (by (with_reducible repeat (first | apply Kd.R_alloc | apply Kd.R_drewN | apply Kd.R_drew)); exact HO398.out) (Kd.R_base ho107) hb); have n2_ := Aside0.mk (Kd.R_lower (Kd.R_new' ho107 (Kd.R_lt (by (with_reducible repeat (first | apply Kd.R_alloc | apply Kd.R_drewN | apply Kd.R_drew)); exact HO398.out))) (below_size (by repeat (first | (with_reducible first | exact HB.out | apply below_alloc | apply pw_below_drewN | apply below_drew1 | refine below_set ?_ GE366.out | refine below_set ?_ GE370.out) | exact HB.out)))); have n3_ := Aside0.mk (blk_below (g := gb366) (o := .cells #[.int .i64 3, .int .i64 0, .slice none 0 0] 34 (0, 0)) (by (with_reducible repeat (first | refine blk_drewN ?_ _ | refine blk_drew ?_ | refine blk_alloc ?_ _)); exact BK366.out) hb); have n4_ := Aside0.mk (blk_below (g := gb370) (o := .cells #[.slice Ao46 y386.length co46, .int .i64 1] 24 (0, 0)) (by (with_reducible repeat (first | refine blk_drewN ?_ _ | refine blk_drew ?_ | refine blk_alloc ?_ _)); exact BK370.out) hb); have n5_ := Aside0.mk (below_step (by repeat (first | (with_reducible first | exact HB.out | apply below_alloc | apply pw_below_drewN | apply below_drew1 | refine below_set ?_ GE366.out | refine below_set ?_ GE370.out) | exact HB.out)) hb); clear HO_371000; clear HO398; clear BK366; clear BK370; clear HB; have HO_371000 := n0_; have HO398 := n1_; have HO401 := n2_; have BK366 := n3_; have BK370 := n4_; have HB := n5_; clear n0_ n1_ n2_ n3_ n4_ n5_; clear hb ho107; obtain ⟨Ao108, co108, eo108⟩ := Kd.R_slice HO398.out; subst eo108; obtain ⟨Ao109, co109, eo109⟩ := Kd.R_slice HO401.out; subst eo109) | (go_at_call 15; (with_reducible refine (tidemillref01_Same.calls kj49 _ _ t396 _ _ y399 false _ ?side1 ?side2 ?side3 ?side4 A78.out).mono ?_); (case side1 => repeat (first | exact (Kd.R_reads' HO398.out).2.2 | (with_reducible refine Kd.C_alloc ?_ _) | (with_reducible refine Kd.C_drewN ?_ _) | (with_reducible refine Kd.C_drew ?_))); (case side2 => exact (Kd.R_reads' HO398.out).2.1); (case side3 => repeat (first | exact (Kd.R_reads' HO401.out).2.2 | (with_reducible refine Kd.C_alloc ?_ _) | (with_reducible refine Kd.C_drewN ?_ _) | (with_reducible refine Kd.C_drew ?_))); (case side4 => exact (Kd.R_reads' HO401.out).2.1); rintro e w' ⟨rfl, ⟨nd, rfl⟩⟩))
                            go_ret
                            exact ⟨by first | rfl | (simp [errW_none, errW_some] <;> rfl) | (simp [*, errW_none, errW_some] <;> rfl), by repeat (first | (with_reducible first | exact HB.out | apply below_alloc | apply pw_below_drewN | apply below_drew1 | refine below_set ?_ GE366.out | refine below_set ?_ GE370.out) | exact HB.out)⟩
                        · replace c76 := Bool.eq_false_iff.mpr c76
                          subst c76
                          have H1 : (some false) = some r := by rw [if_neg (show ¬ (false = true) by decide)] at H; exact H
                          clear H
                          have H := H1
                          clear H1
                          obtain rfl := Option.some.inj H
                          go_wp2
                          go_ret
                          exact ⟨by first | rfl | (simp [errW_none, errW_some] <;> rfl) | (simp [*, errW_none, errW_some] <;> rfl), by repeat (first | (with_reducible first | exact HB.out | apply below_alloc | apply pw_below_drewN | apply below_drew1 | refine below_set ?_ GE366.out | refine below_set ?_ GE370.out) | exact HB.out)⟩
            · rw [if_neg c36] at H
              exact absurd H (by simp)

/-- THE ONE PURE STATEMENT of tidemilllaw16_CutSources: yours. -/
def tidemilllaw16_CutSources.Pure : Prop := ∀ (a0 : Int) (a1 : Bool), (Lit.int .u8 a0).wf = true → ∃ k, tidemilllaw16_CutSources.f k a0 a1 = some true
theorem tidemilllaw16_CutSources.walk (P : tidemilllaw16_CutSources.Pure) (a0 : Int) (a1 : Bool) (w : World) (w0 : (Lit.int .u8 a0).wf = true) :
    Calls Try.prog 4 #[.int .u8 a0, .bool a1] w fun e w' => e = .returned (.bool true) ∧ Below w.heap.size w w' := by
  obtain ⟨k, h⟩ := P a0 a1 w0
  refine (tidemilllaw16_CutSources.calls k a0 a1 true w h).mono ?_
  rintro e w' ⟨rfl, hd⟩
  exact ⟨rfl, hd⟩

end Go.Proofs.Ytlandgbhbfdekaa.Ex
