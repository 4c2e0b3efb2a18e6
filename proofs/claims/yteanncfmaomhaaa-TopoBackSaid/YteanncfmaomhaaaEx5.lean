-- Written by a program of this work (wip/given.py) out of the translation; Lean checks it.
import Derived.Test.YteanncfmaomhaaaEx0
import Derived.Test.YteanncfmaomhaaaWFoot
import Derived.Test.YteanncfmaomhaaaWN
import Derived.Test.YteanncfmaomhaaaWRepsOne
import Derived.Test.YteanncfmaomhaaaWShare
import Derived.Test.YteanncfmaomhaaaWKept
import Derived.Test.YteanncfmaomhaaaWApart
import Derived.Test.YteanncfmaomhaaaWTab
import Derived.Test.YteanncfmaomhaaaEx3
import Derived.Test.YteanncfmaomhaaaEx4
import Derived.Test.YteanncfmaomhaaaTpCheck
namespace Go.Proofs.Yteanncfmaomhaaa.Ex
open Go.RowKit Go.Proofs.YteanncfmaomhaaaW.PrintWords Go.Proofs.YteanncfmaomhaaaW.PrintLast Go.Proofs.YteanncfmaomhaaaW.PrintMore
attribute [local go_sem] max2_int min2_int max_two min_two max_three min_three max_four min_four   -- for this text's walks alone
set_option linter.unusedVariables false
set_option linter.unusedSimpArgs false

/-! ### topo_Bytes: function 16 -/
def topo_Bytes.l0 : Nat → List Int → List (S40) → Int → Int → Option (List Int × Int)
  | 0, _, _, _, _ => none
  | k + 1, x6, x29, x30, x31 => if x31 < x30 then (if 0 ≤ x31 then (if x31 < (x29.length : Int) then ((pack_Uint.f k x6 (IntKind.u64.wrap ((rd_T40 x29 x31).f0))).bind fun t224 => ((pack_Ints.f k t224 ((rd_T40 x29 x31).f1)).bind fun t227 => ((pack_Int.f k t227 ((rd_T40 x29 x31).f3)).bind fun t230 => ((expr_Bytes.f k ((rd_T40 x29 x31).f2.f0) ((rd_T40 x29 x31).f2.f1) ((rd_T40 x29 x31).f2.f2)).bind fun bt233 => ((pack_Bytes.f k t230 bt233.1).bind fun t237 => (topo_Bytes.l0 k t237 x29 x30 (wrap64 (x31 + 1)))))))) else (none)) else (none)) else (some (x6, 0))
def topo_Bytes.f (k : Nat) (l0_0 : List (S40)) (a0_1 : Int) : Option (List Int × Int) := (topo_Check.f l0_0 a0_1).bind fun bt214 => (if bt214.2 = 0 then ((pack_Uint.f k ([] : List Int) (IntKind.u64.wrap (a0_1))).bind fun t216 => ((pack_Uint.f k t216 (IntKind.u64.wrap ((l0_0.length : Int)))).bind fun t219 => (topo_Bytes.l0 k t219 l0_0 (l0_0.length : Int) 0))) else (some (([] : List Int), bt214.2)))
theorem topo_Bytes.mono_l : ∀ k, (∀ y0 y1 y2 y3, LeO (topo_Bytes.l0 k y0 y1 y2 y3) (topo_Bytes.l0 (k + 1) y0 y1 y2 y3))
  | 0 => fun _ _ _ _ r h => by simp [topo_Bytes.l0] at h
  | k + 1 => by
    have ih0 := topo_Bytes.mono_l k
    · intro y0 y1 y2 y3
      unfold topo_Bytes.l0
      repeat' first
      | (with_reducible exact ih0 _ _ _ _)
      | (with_reducible exact expr_Bytes.mono _ _ _ _)
      | (with_reducible exact pack_Bytes.mono _ _ _)
      | (with_reducible exact pack_Int.mono _ _ _)
      | (with_reducible exact pack_Ints.mono _ _ _)
      | (with_reducible exact pack_Uint.mono _ _ _)
      | (with_reducible exact LeO.refl _)
      | (with_reducible exact LeO.none _)
      | (with_reducible refine LeO.ite ?_ ?_)
      | (with_reducible refine LeO.bind ?_ (fun _ => ?_))
      | exact ih0 _ _ _ _
      | exact expr_Bytes.mono _ _ _ _
      | exact pack_Bytes.mono _ _ _
      | exact pack_Int.mono _ _ _
      | exact pack_Ints.mono _ _ _
      | exact pack_Uint.mono _ _ _
      | exact LeO.none _
      | refine LeO.ite ?_ ?_
      | refine LeO.bind ?_ (fun _ => ?_)
theorem topo_Bytes.mono : ∀ a0 a1 k, LeO (topo_Bytes.f k a0 a1) (topo_Bytes.f (k + 1) a0 a1) := by
  intro a0 a1 k
  have ih0 := topo_Bytes.mono_l k
  unfold topo_Bytes.f
  repeat' first
      | (with_reducible exact ih0 _ _ _ _)
      | (with_reducible exact expr_Bytes.mono _ _ _ _)
      | (with_reducible exact pack_Bytes.mono _ _ _)
      | (with_reducible exact pack_Int.mono _ _ _)
      | (with_reducible exact pack_Ints.mono _ _ _)
      | (with_reducible exact pack_Uint.mono _ _ _)
      | (with_reducible exact LeO.refl _)
      | (with_reducible exact LeO.none _)
      | (with_reducible refine LeO.ite ?_ ?_)
      | (with_reducible refine LeO.bind ?_ (fun _ => ?_))
      | exact ih0 _ _ _ _
      | exact expr_Bytes.mono _ _ _ _
      | exact pack_Bytes.mono _ _ _
      | exact pack_Int.mono _ _ _
      | exact pack_Ints.mono _ _ _
      | exact pack_Uint.mono _ _ _
      | exact LeO.none _
      | refine LeO.ite ?_ ?_
      | refine LeO.bind ?_ (fun _ => ?_)
def topo_Bytes.T4 : Bool × List (List Nat × List Nat) := (true, [([], []), ([0], [0]), ([1], [1]), ([2], [2]), ([], []), ([4], [4]), ([5], [5]), ([6], [6]), ([3, 7, 3], [3, 7]), ([8, 8, 0, 1, 2, 3, 4, 5, 6, 7, 8], [8])])
def topo_Bytes.B4 : List Nat := [0, 1, 3, 7, 0, 16, 48, 112, 255, 511]
theorem topo_Bytes.tab4 : rtab .any (opsOf Try.f16 4) = topo_Bytes.T4 := by kernel_rfl
theorem topo_Bytes.bits4 : waitsOk topo_Bytes.T4.2 topo_Bytes.B4 = true := by kernel_rfl
def topo_Bytes.T8 : Bool × List (List Nat × List Nat) := (true, [([], []), ([], []), ([1], [1]), ([2], [2]), ([0, 3], [0, 3]), ([], []), ([5], [5]), ([4, 6, 4], [4, 6]), ([], []), ([8], [8]), ([7, 9, 7], [7, 9]), ([10, 10, 0, 1, 2, 3, 4, 5, 6, 7, 8, 9, 10], [0, 10])])
def topo_Bytes.B8 : List Nat := [0, 0, 2, 6, 15, 0, 32, 127, 0, 256, 1023, 2047]
theorem topo_Bytes.tab8 : rtab .any (opsOf Try.f16 8) = topo_Bytes.T8 := by kernel_rfl
theorem topo_Bytes.bits8 : waitsOk topo_Bytes.T8.2 topo_Bytes.B8 = true := by kernel_rfl
set_option maxHeartbeats 8000000 in
set_option maxRecDepth 100000 in
theorem topo_Bytes.calls (k : Nat) (A0_0 : Option Addr) (c0_0 : Nat) (l0_0 : List (S40)) (a0_1 : Int) (r1 : List Int) (r2 : Int) (w : World) (hr0_0 : Kd.C k40 w A0_0 l0_0.length l0_0) (hc0_0 : l0_0.length ≤ c0_0) (h : topo_Bytes.f k l0_0 a0_1 = some (r1, r2)) :
    Calls Try.prog 16 #[.agg #[.slice A0_0 l0_0.length c0_0, .int .i64 a0_1]] w fun e w' => ∃ v0_ : Value, e = .returned (.tuple #[v0_, .int .i64 r2]) ∧ Kd.R (Kd.int .u8) 5 w' w.heap.size (fun _ => True) v0_ r1 ∧ Below w.heap.size w w' := by
  have hu24 := Try.underlying24
  have hu40 := Try.underlying40
  have hu38 := Try.underlying38
  have HR0_0 := Aside0.mk hr0_0
  have HC0_0 := Aside0.mk hc0_0
  clear hr0_0 hc0_0
  have HB := Aside0.mk (Below.refl w.heap.size w)
  have H : ((topo_Check.f l0_0 a0_1).bind fun bt214 => (if bt214.2 = 0 then ((pack_Uint.f k ([] : List Int) (IntKind.u64.wrap (a0_1))).bind fun t216 => ((pack_Uint.f k t216 (IntKind.u64.wrap ((l0_0.length : Int)))).bind fun t219 => (topo_Bytes.l0 k t219 l0_0 (l0_0.length : Int) 0))) else (some (([] : List Int), bt214.2)))) = some (r1, r2) := h
  clear h
  replace H := Option.bind_eq_some_iff.mp H
  obtain ⟨⟨t214, t215⟩, A20, H⟩ := H
  replace H : (if t215 = 0 then ((pack_Uint.f k ([] : List Int) (IntKind.u64.wrap (a0_1))).bind fun t216 => ((pack_Uint.f k t216 (IntKind.u64.wrap ((l0_0.length : Int)))).bind fun t219 => (topo_Bytes.l0 k t219 l0_0 (l0_0.length : Int) 0))) else (some (([] : List Int), t215))) = some (r1, r2) := H
  have A2 := Aside0.mk A20
  clear A20
  by_cases c3 : t215 = 0
  · rw [if_pos c3] at H
    have c3b0 : (t215 == 0) = true := beq_iff_eq.mpr c3
    have c3b1 : (t215 != 0) = false := bne_eq_false_iff_eq.mpr c3
    clear c3
    replace H := Option.bind_eq_some_iff.mp H
    obtain ⟨t216, A40, H⟩ := H
    replace H : ((pack_Uint.f k t216 (IntKind.u64.wrap ((l0_0.length : Int)))).bind fun t219 => (topo_Bytes.l0 k t219 l0_0 (l0_0.length : Int) 0)) = some (r1, r2) := H
    have A4 := Aside0.mk A40
    clear A40
    replace H := Option.bind_eq_some_iff.mp H
    obtain ⟨t219, A50, H⟩ := H
    replace H : (topo_Bytes.l0 k t219 l0_0 (l0_0.length : Int) 0) = some (r1, r2) := H
    have A5 := Aside0.mk A50
    clear A50
    have H' := Aside0.mk H
    clear H
    go_enter Try.func16, Try.ntmps16
    try go_wp2_with (first | ((with_reducible refine gate_dst (N := 1) rfl ?_); refine box_event ?hg (N := 1) ?hd (cs := #[.slice A0_0 l0_0.length c0_0, .int .i64 a0_1]) (t := 24) ?hr ?_; (case hd => rfl); (case hg => rfl); (case hr => first | (go_simp; done) | (go_simp; rfl)); intro gb213 hg w6 hbox hb; have n0_ := Aside0.mk (below_step (by repeat (first | (with_reducible first | exact HB.out | apply below_alloc | apply pw_below_drewN | apply below_drew1) | exact HB.out)) hb); have n1_ := Aside0.mk (hbox); have n2_ := Aside0.mk ((by rw [hg]; exact (below_size (by repeat (first | (with_reducible first | exact HB.out | apply below_alloc | apply pw_below_drewN | apply below_drew1) | exact HB.out))) : w.heap.size ≤ gb213)); have n3_ := Aside0.mk ((by rw [hg]; exact (below_size (by repeat (first | (with_reducible first | exact HB.out | apply below_alloc | apply pw_below_drewN | apply below_drew1) | exact HB.out))) : w.heap.size ≤ gb213)); clear HB; have HB := n0_; have BK213 := n1_; have GW213 := n2_; have GE213 := n3_; clear n0_ n1_ n2_ n3_; clear hb hbox hg; have hcz7_0 : w6.cell? ⟨gb213, 0, none⟩ = some (.slice A0_0 l0_0.length c0_0) := (blk_cell BK213.out 0).trans rfl; have hcz7_1 : w6.cell? ⟨gb213, 1, none⟩ = some (.int .i64 a0_1) := (blk_cell BK213.out 1).trans rfl; have hfz7_0 := blk_frozen BK213.out 0; have hfz7_1 := blk_frozen BK213.out 1) | ((with_reducible refine gate_callee (f := 10) rfl ?_); refine goesL_ (some 13) rfl rfl Try.func10 (by kernel_rfl) rfl #[.agg #[.slice A0_0 l0_0.length c0_0, .int .i64 a0_1]] rfl (by (try simp only [List.map_toArray, List.map_cons, List.map_nil]); first | done | rfl | (simp only [List.length_drop, List.length_take]; rfl)) ?_; (with_reducible refine (topo_Check.calls _ _ l0_0 a0_1 t214 t215 _ ?side1 ?side2 A2.out).mono ?_); (case side1 => repeat (first | exact (Kd.C_below HR0_0.out HB.out) | (with_reducible refine Kd.C_alloc ?_ _) | (with_reducible refine Kd.C_drewN ?_ _) | (with_reducible refine Kd.C_drew ?_))); (case side2 => exact HC0_0.out); rintro e w8 ⟨rfl, hb⟩; refine ⟨_, rfl, ?_⟩; have n0_ := Aside0.mk (blk_below (g := gb213) (o := .cells #[.slice A0_0 l0_0.length c0_0, .int .i64 a0_1] 24 (0, 0)) (by (with_reducible repeat (first | refine blk_drewN ?_ _ | refine blk_drew ?_ | refine blk_alloc ?_ _)); exact BK213.out) hb); have n1_ := Aside0.mk (below_step (by repeat (first | (with_reducible first | exact HB.out | apply below_alloc | apply pw_below_drewN | apply below_drew1 | refine below_set ?_ GE213.out) | exact HB.out)) hb); clear BK213; clear HB; have BK213 := n0_; have HB := n1_; clear n0_ n1_; (try clear hb); (try clear hb2); (try clear hk); (try clear hi)))
    have n0_ := Aside0.mk (blk_drew BK213.out)
    have n1_ := Aside0.mk (below_drew1 HB.out)
    clear BK213
    clear HB
    have BK213 := n0_
    have HB := n1_
    clear n0_ n1_
    refine start_ (n := 10) (S := fun w' => w'.cell? ⟨gb213, 0, none⟩ = some (.slice A0_0 l0_0.length c0_0) ∧ w'.cell? ⟨gb213, 1, none⟩ = some (.int .i64 a0_1)) (ds := []) #[false, false, false, false, false, false, false, false, false, false] (by kernel_rfl) rfl rfl ⟨(blk_cell BK213.out 0).trans rfl, (blk_cell BK213.out 1).trans rfl⟩ (fun hHeld => ?_); refine with_tabW topo_Bytes.tab4 topo_Bytes.bits4 (fun HT_ HW_ => ?_)
    generalize w8.drew = w9 at BK213 HB hHeld ⊢
    refine pure_ (i := 0) (N := some 19) (v := ?_) (a' := ?_) #[true, false, false, false, false, false, false, false, false, false] rfl rfl (any_of HT_.out (by kernel_rfl)) (fun _ _ _ h => h) (Or.inl ⟨by rfl, ?_⟩) ?_ ?_
    rotate_left
    · intro w'
      go_simp
      with_reducible rfl
    rotate_left
    · simp only [Act.put, List.setIfInBounds_toArray, List.set_cons_zero, List.set_cons_succ, i64_w, i32_w]
      rfl
    refine pure_ (i := 4) (N := some 23) (v := ?_) (a' := ?_) #[true, false, false, false, true, false, false, false, false, false] rfl rfl (any_of HT_.out (by kernel_rfl)) (fun _ _ _ h => h) (Or.inl ⟨by rfl, ?_⟩) ?_ ?_
    rotate_left
    · intro w'
      go_simp
      with_reducible rfl
    rotate_left
    · simp only [Act.put, List.setIfInBounds_toArray, List.set_cons_zero, List.set_cons_succ, i64_w, i32_w]
      rfl
    refine take_ (i := 1) (N := some 20) (v := ?_) (a' := ?_) #[true, true, false, false, true, false, false, false, false, false] rfl rfl (take_ofW HT_.out HW_.out (by kernel_rfl)) (fun _ _ _ h => h) (Or.inl ⟨by rfl, ?_⟩) hHeld ?_ ?_
    rotate_left
    · rintro w' ⟨s0, s1⟩
      go_simp
      with_reducible rfl
    rotate_left
    · simp only [Act.put, List.setIfInBounds_toArray, List.set_cons_zero, List.set_cons_succ, i64_w, i32_w]
      rfl
    refine pure_ (i := 2) (N := some 21) (v := ?_) (a' := ?_) #[true, true, true, false, true, false, false, false, false, false] rfl rfl (any_of HT_.out (by kernel_rfl)) (fun _ _ _ h => h) (Or.inl ⟨by rfl, ?_⟩) ?_ ?_
    rotate_left
    · intro w'
      go_simp
      with_reducible rfl
    rotate_left
    · simp only [Act.put, List.setIfInBounds_toArray, List.set_cons_zero, List.set_cons_succ, i64_w, i32_w]
      rfl
    refine take_ (i := 5) (N := some 24) (v := ?_) (a' := ?_) #[true, true, true, false, true, true, false, false, false, false] rfl rfl (take_ofW HT_.out HW_.out (by kernel_rfl)) (fun _ _ _ h => h) (Or.inl ⟨by rfl, ?_⟩) hHeld ?_ ?_
    rotate_left
    · rintro w' ⟨s0, s1⟩
      go_simp
      with_reducible rfl
    rotate_left
    · simp only [Act.put, List.setIfInBounds_toArray, List.set_cons_zero, List.set_cons_succ, i64_w, i32_w]
      rfl
    refine pure_ (i := 6) (N := some 25) (v := ?_) (a' := ?_) #[true, true, true, false, true, true, true, false, false, false] rfl rfl (any_of HT_.out (by kernel_rfl)) (fun _ _ _ h => h) (Or.inl ⟨by rfl, ?_⟩) ?_ ?_
    rotate_left
    · intro w'
      go_simp
      with_reducible rfl
    rotate_left
    · simp only [Act.put, List.setIfInBounds_toArray, List.set_cons_zero, List.set_cons_succ, i64_w, i32_w]
      rfl
    refine pure_ (i := 7) (N := some 26) (v := ?_) (a' := ?_) #[true, true, true, false, true, true, true, true, false, false] rfl rfl (any_of HT_.out (by kernel_rfl)) (fun _ _ _ h => h) (Or.inl ⟨by rfl, ?_⟩) ?_ ?_
    rotate_left
    · intro w'
      go_simp
      with_reducible rfl
    rotate_left
    · simp only [Act.put, List.setIfInBounds_toArray, List.set_cons_zero, List.set_cons_succ, i64_w, i32_w]
      rfl
    refine one_ (i := 3) (N := some 22) #[true, true, true, true, true, true, true, true, false, false] rfl rfl (one_of HT_.out (by kernel_rfl)) (by decide) (fun K hK => ?_)
    refine goes_ Try.func23 (by kernel_rfl) rfl #[.slice none 0 0, .int .u64 (IntKind.u64.wrap (a0_1))] (by rfl) rfl rfl (by (try simp only [List.map_toArray, List.map_cons, List.map_nil]); first | done | rfl | (simp only [List.length_drop, List.length_take]; rfl)) ?_
    refine (pack_Uint.calls k _ _ ([] : List Int) (IntKind.u64.wrap (a0_1)) t216 _ ?side1 ?side2 A4.out).mono ?_
    (case side1 => exact Kd.C_nil _ _)
    (case side2 => exact Nat.le_refl _)
    rintro e w10 ⟨v217, rfl, ho0, hb⟩
    refine ⟨_, rfl, ?_⟩
    have n0_ := Aside0.mk (Kd.R_lower ho0 (below_size (by repeat (first | (with_reducible first | exact HB.out | apply below_alloc | apply pw_below_drewN | apply below_drew1 | refine below_set ?_ GE213.out) | exact HB.out))))
    have n1_ := Aside0.mk (blk_below (g := gb213) (o := .cells #[.slice A0_0 l0_0.length c0_0, .int .i64 a0_1] 24 (0, 0)) (by (with_reducible repeat (first | refine blk_drewN ?_ _ | refine blk_drew ?_ | refine blk_alloc ?_ _)); exact BK213.out) hb)
    have n2_ := Aside0.mk (below_step (by repeat (first | (with_reducible first | exact HB.out | apply below_alloc | apply pw_below_drewN | apply below_drew1 | refine below_set ?_ GE213.out) | exact HB.out)) hb)
    clear BK213
    clear HB
    have HO218 := n0_
    have BK213 := n1_
    have HB := n2_
    clear n0_ n1_ n2_
    (try clear hb)
    (try clear hb2)
    (try clear hk)
    (try clear hi)
    (try clear ho0)
    obtain ⟨Ao11, co11, eo11⟩ := Kd.R_slice HO218.out
    (first | subst eo11 | (injection eo11 with f1_ f2_ f3_; have f4_ := f1_.symm; have f5_ := f3_.symm; clear f1_ f2_ f3_; subst f4_; subst f5_))
    refine hK.out _ _ ⟨(blk_cell BK213.out 0).trans rfl, (blk_cell BK213.out 1).trans rfl⟩ (fun hHeld => ?_)
    clear hK K
    refine norm_ (a' := ?_) ?_ ?_
    rotate_left
    · show Act.put _ (some 22) _ = _
      simp only [Act.put, List.setIfInBounds_toArray, List.set_cons_zero, List.set_cons_succ, i64_w, i32_w]
      rfl
    refine one_ (i := 8) (N := some 27) #[true, true, true, true, true, true, true, true, true, false] rfl rfl (one_of HT_.out (by kernel_rfl)) (by decide) (fun K hK => ?_)
    refine goes_ Try.func23 (by kernel_rfl) rfl #[.slice Ao11 t216.length co11, .int .u64 (IntKind.u64.wrap ((l0_0.length : Int)))] (by rfl) rfl rfl (by (try simp only [List.map_toArray, List.map_cons, List.map_nil]); first | done | rfl | (simp only [List.length_drop, List.length_take]; rfl)) ?_
    with_reducible refine (pack_Uint.calls k _ _ t216 (IntKind.u64.wrap ((l0_0.length : Int))) t219 _ ?side1 ?side2 A5.out).mono ?_
    (case side1 => repeat (first | exact (Kd.R_reads' HO218.out).2.2 | (with_reducible refine Kd.C_alloc ?_ _) | (with_reducible refine Kd.C_drewN ?_ _) | (with_reducible refine Kd.C_drew ?_)))
    (case side2 => exact (Kd.R_reads' HO218.out).2.1)
    rintro e w12 ⟨v220, rfl, ho0, hb⟩
    refine ⟨_, rfl, ?_⟩
    have n0_ := Aside0.mk (Kd.R_elder' (by (with_reducible repeat (first | apply Kd.R_alloc | apply Kd.R_drewN | apply Kd.R_drew)); exact HO218.out) (Kd.R_base ho0) hb)
    have n1_ := Aside0.mk (Kd.R_lower (Kd.R_new' ho0 (Kd.R_lt (by (with_reducible repeat (first | apply Kd.R_alloc | apply Kd.R_drewN | apply Kd.R_drew)); exact HO218.out))) (below_size (by repeat (first | (with_reducible first | exact HB.out | apply below_alloc | apply pw_below_drewN | apply below_drew1 | refine below_set ?_ GE213.out) | exact HB.out))))
    have n2_ := Aside0.mk (blk_below (g := gb213) (o := .cells #[.slice A0_0 l0_0.length c0_0, .int .i64 a0_1] 24 (0, 0)) (by (with_reducible repeat (first | refine blk_drewN ?_ _ | refine blk_drew ?_ | refine blk_alloc ?_ _)); exact BK213.out) hb)
    have n3_ := Aside0.mk (below_step (by repeat (first | (with_reducible first | exact HB.out | apply below_alloc | apply pw_below_drewN | apply below_drew1 | refine below_set ?_ GE213.out) | exact HB.out)) hb)
    clear HO218
    clear BK213
    clear HB
    have HO218 := n0_
    have HO221 := n1_
    have BK213 := n2_
    have HB := n3_
    clear n0_ n1_ n2_ n3_
    (try clear hb)
    (try clear hb2)
    (try clear hk)
    (try clear hi)
    (try clear ho0)
    refine hK.out _ _ ⟨(blk_cell BK213.out 0).trans rfl, (blk_cell BK213.out 1).trans rfl⟩ (fun hHeld => ?_)
    clear hK K
    refine norm_ (a' := ?_) ?_ ?_
    rotate_left
    · show Act.put _ (some 27) _ = _
      simp only [Act.put, List.setIfInBounds_toArray, List.set_cons_zero, List.set_cons_succ, i64_w, i32_w]
      rfl
    refine pure_ (i := 9) (N := some 6) (v := ?_) (a' := ?_) #[true, true, true, true, true, true, true, true, true, true] rfl rfl (any_of HT_.out (by kernel_rfl)) (fun _ _ _ h => h) (Or.inl ⟨by rfl, ?_⟩) ?_ ?_
    rotate_left
    · intro w'
      go_simp
      with_reducible rfl
    rotate_left
    · simp only [Act.put, List.setIfInBounds_toArray, List.set_cons_zero, List.set_cons_succ, i64_w, i32_w]
      rfl
    refine done_ (done_of HT_.out (by kernel_rfl)) ?_
    have hcz13_0 : w12.cell? ⟨gb213, 0, none⟩ = some (.slice A0_0 l0_0.length c0_0) := (blk_cell BK213.out 0).trans rfl
    have hcz13_1 : w12.cell? ⟨gb213, 1, none⟩ = some (.int .i64 a0_1) := (blk_cell BK213.out 1).trans rfl
    have hfz13_0 := blk_frozen BK213.out 0
    have hfz13_1 := blk_frozen BK213.out 1
    try go_wp2
    go_loopg [6, 31] k (fun kq v6 v31 w' => ∃ (x6_1 : List Int) (x31_1 : Int), v31 = .int .i64 x31_1 ∧ Aside0 (topo_Bytes.l0 kq x6_1 l0_0 (l0_0.length : Int) x31_1 = some (r1, r2)) ∧ Aside0 (kq ≤ k) ∧ Aside0 (Kd.R (Kd.int .u8) 5 w' w.heap.size (fun _ => True) v6 x6_1) ∧ Aside0 (w'.heap[gb213]? = some (.cells #[(.slice A0_0 l0_0.length c0_0), .int .i64 a0_1] 24 (0, 0))) ∧ Aside0 (Below w.heap.size w w'))
    case atStart => exact ⟨(t219), (0), (by first | rfl | (simp; done) | (simp [*]; done)), H', ⟨Nat.le_refl _⟩, ⟨by (with_reducible repeat (first | apply Kd.R_alloc | apply Kd.R_drewN | apply Kd.R_drew)); exact Kd.R_mono HO221.out (fun _ hk => trivial)⟩, ⟨by (with_reducible repeat (first | refine blk_drewN ?_ _ | refine blk_drew ?_ | refine blk_alloc ?_ _)); exact BK213.out⟩, ⟨by repeat (first | (with_reducible first | exact HB.out | apply below_alloc | apply pw_below_drewN | apply below_drew1 | refine below_set ?_ GE213.out) | exact HB.out)⟩⟩
    case round =>
      clear H'
      try clear c1
      try clear c2
      try clear p2
      try clear c3
      try clear c3b0
      try clear c3b1
      try clear c10
      try clear hcz13_0
      try clear hcz13_1
      try clear hcz7_0
      try clear hcz7_1
      try clear hfz13_0
      try clear hfz13_1
      try clear hfz7_0
      try clear hfz7_1
      obtain ⟨x6_1, x31_1, rfl, HA, HK1, HO_6, BK213, HB⟩ := hrel
      cases gk with
      | zero => exact absurd HA.out (by simp [topo_Bytes.l0])
      | succ k1 =>
        have H := HA.out
        clear HA
        simp only [topo_Bytes.l0] at H
        by_cases c14 : x31_1 < (l0_0.length : Int)
        · rw [if_pos c14] at H
          have c14b0 : decide (x31_1 < (l0_0.length : Int)) = true := decide_eq_true c14
          clear c14
          by_cases c15 : 0 ≤ x31_1
          · rw [if_pos c15] at H
            have c15b0 : decide (0 ≤ x31_1) = true := decide_eq_true c15
            clear c15
            by_cases c16 : x31_1 < (l0_0.length : Int)
            · rw [if_pos c16] at H
              have c16b0 : decide (x31_1 < (l0_0.length : Int)) = true := decide_eq_true c16
              clear c16
              replace H := Option.bind_eq_some_iff.mp H
              obtain ⟨t224, A170, H⟩ := H
              replace H : ((pack_Ints.f k1 t224 ((rd_T40 l0_0 x31_1).f1)).bind fun t227 => ((pack_Int.f k1 t227 ((rd_T40 l0_0 x31_1).f3)).bind fun t230 => ((expr_Bytes.f k1 ((rd_T40 l0_0 x31_1).f2.f0) ((rd_T40 l0_0 x31_1).f2.f1) ((rd_T40 l0_0 x31_1).f2.f2)).bind fun bt233 => ((pack_Bytes.f k1 t230 bt233.1).bind fun t237 => (topo_Bytes.l0 k1 t237 l0_0 (l0_0.length : Int) (wrap64 (x31_1 + 1))))))) = some (r1, r2) := H
              have A17 := Aside0.mk A170
              clear A170
              replace H := Option.bind_eq_some_iff.mp H
              obtain ⟨t227, A180, H⟩ := H
              replace H : ((pack_Int.f k1 t227 ((rd_T40 l0_0 x31_1).f3)).bind fun t230 => ((expr_Bytes.f k1 ((rd_T40 l0_0 x31_1).f2.f0) ((rd_T40 l0_0 x31_1).f2.f1) ((rd_T40 l0_0 x31_1).f2.f2)).bind fun bt233 => ((pack_Bytes.f k1 t230 bt233.1).bind fun t237 => (topo_Bytes.l0 k1 t237 l0_0 (l0_0.length : Int) (wrap64 (x31_1 + 1)))))) = some (r1, r2) := H
              have A18 := Aside0.mk A180
              clear A180
              replace H := Option.bind_eq_some_iff.mp H
              obtain ⟨t230, A190, H⟩ := H
              replace H : ((expr_Bytes.f k1 ((rd_T40 l0_0 x31_1).f2.f0) ((rd_T40 l0_0 x31_1).f2.f1) ((rd_T40 l0_0 x31_1).f2.f2)).bind fun bt233 => ((pack_Bytes.f k1 t230 bt233.1).bind fun t237 => (topo_Bytes.l0 k1 t237 l0_0 (l0_0.length : Int) (wrap64 (x31_1 + 1))))) = some (r1, r2) := H
              have A19 := Aside0.mk A190
              clear A190
              replace H := Option.bind_eq_some_iff.mp H
              obtain ⟨⟨t233, t236⟩, A200, H⟩ := H
              replace H : ((pack_Bytes.f k1 t230 t233).bind fun t237 => (topo_Bytes.l0 k1 t237 l0_0 (l0_0.length : Int) (wrap64 (x31_1 + 1)))) = some (r1, r2) := H
              have A20 := Aside0.mk A200
              clear A200
              replace H := Option.bind_eq_some_iff.mp H
              obtain ⟨t237, A210, H⟩ := H
              replace H : (topo_Bytes.l0 k1 t237 l0_0 (l0_0.length : Int) (wrap64 (x31_1 + 1))) = some (r1, r2) := H
              have A21 := Aside0.mk A210
              clear A210
              have H' := Aside0.mk H
              clear H
              have p222 : 0 ≤ (x31_1 : Int) := of_decide_eq_true (by first | (with_reducible assumption) | assumption)
              have q222 : x31_1 < (l0_0.length : Int) := of_decide_eq_true (by first | (with_reducible assumption) | assumption)
              obtain ⟨ad222, A222_1, c222_1, A222_4, c222_4, e222, hx222_0, hx222_1, hx222_2, hx222_3, hx222_4, hx222_5, hl222_1, hi222_1, hl222_4, hi222_4⟩ := at_T40 HR0_0.out x31_1 p222 q222
              cases e222
              replace hx222_0 := (HB.out.cell (World.block_lt_of_cell? w _ hx222_0)).trans hx222_0
              replace hx222_1 := (HB.out.cell (World.block_lt_of_cell? w _ hx222_1)).trans hx222_1
              replace hx222_2 := (HB.out.cell (World.block_lt_of_cell? w _ hx222_2)).trans hx222_2
              replace hx222_3 := (HB.out.cell (World.block_lt_of_cell? w _ hx222_3)).trans hx222_3
              replace hx222_4 := (HB.out.cell (World.block_lt_of_cell? w _ hx222_4)).trans hx222_4
              replace hx222_5 := (HB.out.cell (World.block_lt_of_cell? w _ hx222_5)).trans hx222_5
              have HR222_1 := Aside0.mk hi222_1
              have HC222_1 := Aside0.mk hl222_1
              clear hi222_1 hl222_1
              have HR222_4 := Aside0.mk hi222_4
              have HC222_4 := Aside0.mk hl222_4
              clear hi222_4 hl222_4
              replace p222 := eq_true p222
              replace q222 := eq_true q222
              try go_wp2_with (first | ((with_reducible refine gate_dst (N := 8) rfl ?_); refine box_event ?hg (N := 8) ?hd (cs := #[.int .i64 0, .slice none 0 0, .int .i64 0, .int .i64 0, .slice none 0 0, .int .i64 0]) (t := 40) ?hr ?_; (case hd => rfl); (case hg => rfl); (case hr => first | (go_simp; done) | (go_simp; rfl)); intro gb223 hg w22 hbox hb; have n0_ := Aside0.mk (Kd.R_below (by (with_reducible repeat (first | apply Kd.R_alloc | apply Kd.R_drewN | apply Kd.R_drew)); exact HO_6.out) hb); have n1_ := Aside0.mk (blk_below (g := gb213) (o := .cells #[.slice (some ad222) l0_0.length c0_0, .int .i64 a0_1] 24 (0, 0)) (by (with_reducible repeat (first | refine blk_drewN ?_ _ | refine blk_drew ?_ | refine blk_alloc ?_ _)); exact BK213.out) hb); have n2_ := Aside0.mk (below_step (by repeat (first | (with_reducible first | exact HB.out | apply below_alloc | apply pw_below_drewN | apply below_drew1 | refine below_set ?_ GE213.out) | exact HB.out)) hb); have n3_ := Aside0.mk (hbox); have n4_ := Aside0.mk ((by rw [hg]; exact (below_size (by repeat (first | (with_reducible first | exact HB.out | apply below_alloc | apply pw_below_drewN | apply below_drew1 | refine below_set ?_ GE213.out) | exact HB.out))) : w.heap.size ≤ gb223)); have n5_ := Aside0.mk ((by rw [hg]; exact (below_size (by repeat (first | (with_reducible first | exact HB.out | apply below_alloc | apply pw_below_drewN | apply below_drew1 | refine below_set ?_ GE213.out) | exact HB.out))) : w.heap.size ≤ gb223)); have n6_ := Aside0.mk ((by rw [hg]; exact Nat.ne_of_lt (blk_lt (g := gb213) (o := .cells #[.slice (some ad222) l0_0.length c0_0, .int .i64 a0_1] 24 (0, 0)) (by (with_reducible repeat (first | refine blk_drewN ?_ _ | refine blk_drew ?_ | refine blk_alloc ?_ _)); exact BK213.out)) : gb213 ≠ gb223)); have n7_ := Aside0.mk ((by rw [hg]; exact Nat.ne_of_gt (blk_lt (g := gb213) (o := .cells #[.slice (some ad222) l0_0.length c0_0, .int .i64 a0_1] 24 (0, 0)) (by (with_reducible repeat (first | refine blk_drewN ?_ _ | refine blk_drew ?_ | refine blk_alloc ?_ _)); exact BK213.out)) : gb223 ≠ gb213)); clear HO_6; clear BK213; clear HB; have HO_6 := n0_; have BK213 := n1_; have HB := n2_; have BK223 := n3_; have GW223 := n4_; have GE223 := n5_; have NB213_223 := n6_; have NB223_213 := n7_; clear n0_ n1_ n2_ n3_ n4_ n5_ n6_ n7_; clear hb hbox hg; have hnb23 := NB223_213.out; have hnc23 := NB213_223.out; have hcz24_0 : w22.cell? ⟨gb223, 0, none⟩ = some (.int .i64 0) := (blk_cell BK223.out 0).trans rfl; have hcz24_1 : w22.cell? ⟨gb223, 1, none⟩ = some (.slice none 0 0) := (blk_cell BK223.out 1).trans rfl; have hcz24_2 : w22.cell? ⟨gb223, 2, none⟩ = some (.int .i64 0) := (blk_cell BK223.out 2).trans rfl; have hcz24_3 : w22.cell? ⟨gb223, 3, none⟩ = some (.int .i64 0) := (blk_cell BK223.out 3).trans rfl; have hcz24_4 : w22.cell? ⟨gb223, 4, none⟩ = some (.slice none 0 0) := (blk_cell BK223.out 4).trans rfl; have hcz24_5 : w22.cell? ⟨gb223, 5, none⟩ = some (.int .i64 0) := (blk_cell BK223.out 5).trans rfl; have hfz24_0 := blk_frozen BK223.out 0; have hfz24_1 := blk_frozen BK223.out 1; have hfz24_2 := blk_frozen BK223.out 2; have hfz24_3 := blk_frozen BK223.out 3; have hfz24_4 := blk_frozen BK223.out 4; have hfz24_5 := blk_frozen BK223.out 5))
              have n0_ : Aside0 (Kd.R (Kd.int .u8) 5 ((((((w22.setCell ⟨gb223, 0, none⟩ (.int .i64 ((rd_T40 l0_0 x31_1).f0))).setCell ⟨gb223, 1, none⟩ (.slice A222_1 ((rd_T40 l0_0 x31_1).f1).length c222_1)).setCell ⟨gb223, 2, none⟩ (.int .i64 ((rd_T40 l0_0 x31_1).f2.f0))).setCell ⟨gb223, 3, none⟩ (.int .i64 ((rd_T40 l0_0 x31_1).f2.f1))).setCell ⟨gb223, 4, none⟩ (.slice A222_4 ((rd_T40 l0_0 x31_1).f2.f2).length c222_4)).setCell ⟨gb223, 5, none⟩ (.int .i64 ((rd_T40 l0_0 x31_1).f3))) w.heap.size (fun _ => True) u6 x6_1) := ⟨by (with_reducible repeat (first | apply Kd.R_alloc | apply Kd.R_drewN | apply Kd.R_drew)); exact Kd.R_mono (Kd.R_far (p := ⟨gb223, 5, none⟩) (Kd.R_far (p := ⟨gb223, 4, none⟩) (Kd.R_far (p := ⟨gb223, 3, none⟩) (Kd.R_far (p := ⟨gb223, 2, none⟩) (Kd.R_far (p := ⟨gb223, 1, none⟩) (Kd.R_far (p := ⟨gb223, 0, none⟩) (Kd.R_types HO_6.out BK223.out (by decide)) (fun _ hk => hk.2) (.int .i64 ((rd_T40 l0_0 x31_1).f0))) (fun _ hk => hk.2) (.slice A222_1 ((rd_T40 l0_0 x31_1).f1).length c222_1)) (fun _ hk => hk.2) (.int .i64 ((rd_T40 l0_0 x31_1).f2.f0))) (fun _ hk => hk.2) (.int .i64 ((rd_T40 l0_0 x31_1).f2.f1))) (fun _ hk => hk.2) (.slice A222_4 ((rd_T40 l0_0 x31_1).f2.f2).length c222_4)) (fun _ hk => hk.2) (.int .i64 ((rd_T40 l0_0 x31_1).f3))) (fun _ hk => trivial)⟩
              have n1_ : Aside0 (((((((w22.setCell ⟨gb223, 0, none⟩ (.int .i64 ((rd_T40 l0_0 x31_1).f0))).setCell ⟨gb223, 1, none⟩ (.slice A222_1 ((rd_T40 l0_0 x31_1).f1).length c222_1)).setCell ⟨gb223, 2, none⟩ (.int .i64 ((rd_T40 l0_0 x31_1).f2.f0))).setCell ⟨gb223, 3, none⟩ (.int .i64 ((rd_T40 l0_0 x31_1).f2.f1))).setCell ⟨gb223, 4, none⟩ (.slice A222_4 ((rd_T40 l0_0 x31_1).f2.f2).length c222_4)).setCell ⟨gb223, 5, none⟩ (.int .i64 ((rd_T40 l0_0 x31_1).f3))).heap[gb213]? = some (.cells #[.slice (some ad222) l0_0.length c0_0, .int .i64 a0_1] 24 (0, 0))) := ⟨by (with_reducible repeat (first | refine blk_drewN ?_ _ | refine blk_drew ?_ | refine blk_alloc ?_ _)); refine blk_far ?_ NB213_223.out _; (with_reducible repeat (first | refine blk_drewN ?_ _ | refine blk_drew ?_ | refine blk_alloc ?_ _)); refine blk_far ?_ NB213_223.out _; (with_reducible repeat (first | refine blk_drewN ?_ _ | refine blk_drew ?_ | refine blk_alloc ?_ _)); refine blk_far ?_ NB213_223.out _; (with_reducible repeat (first | refine blk_drewN ?_ _ | refine blk_drew ?_ | refine blk_alloc ?_ _)); refine blk_far ?_ NB213_223.out _; (with_reducible repeat (first | refine blk_drewN ?_ _ | refine blk_drew ?_ | refine blk_alloc ?_ _)); refine blk_far ?_ NB213_223.out _; (with_reducible repeat (first | refine blk_drewN ?_ _ | refine blk_drew ?_ | refine blk_alloc ?_ _)); refine blk_far ?_ NB213_223.out _; (with_reducible repeat (first | refine blk_drewN ?_ _ | refine blk_drew ?_ | refine blk_alloc ?_ _)); exact BK213.out⟩
              have n2_ : Aside0 (((((((w22.setCell ⟨gb223, 0, none⟩ (.int .i64 ((rd_T40 l0_0 x31_1).f0))).setCell ⟨gb223, 1, none⟩ (.slice A222_1 ((rd_T40 l0_0 x31_1).f1).length c222_1)).setCell ⟨gb223, 2, none⟩ (.int .i64 ((rd_T40 l0_0 x31_1).f2.f0))).setCell ⟨gb223, 3, none⟩ (.int .i64 ((rd_T40 l0_0 x31_1).f2.f1))).setCell ⟨gb223, 4, none⟩ (.slice A222_4 ((rd_T40 l0_0 x31_1).f2.f2).length c222_4)).setCell ⟨gb223, 5, none⟩ (.int .i64 ((rd_T40 l0_0 x31_1).f3))).heap[gb223]? = some (.cells #[.int .i64 ((rd_T40 l0_0 x31_1).f0), .slice A222_1 ((rd_T40 l0_0 x31_1).f1).length c222_1, .int .i64 ((rd_T40 l0_0 x31_1).f2.f0), .int .i64 ((rd_T40 l0_0 x31_1).f2.f1), .slice A222_4 ((rd_T40 l0_0 x31_1).f2.f2).length c222_4, .int .i64 ((rd_T40 l0_0 x31_1).f3)] 40 (0, 0))) := ⟨by (with_reducible repeat (first | refine blk_drewN ?_ _ | refine blk_drew ?_ | refine blk_alloc ?_ _)); refine blk_put (cs := #[.int .i64 ((rd_T40 l0_0 x31_1).f0), .slice A222_1 ((rd_T40 l0_0 x31_1).f1).length c222_1, .int .i64 ((rd_T40 l0_0 x31_1).f2.f0), .int .i64 ((rd_T40 l0_0 x31_1).f2.f1), .slice A222_4 ((rd_T40 l0_0 x31_1).f2.f2).length c222_4, .int .i64 0]) ?_ 5 _ rfl; (with_reducible repeat (first | refine blk_drewN ?_ _ | refine blk_drew ?_ | refine blk_alloc ?_ _)); refine blk_put (cs := #[.int .i64 ((rd_T40 l0_0 x31_1).f0), .slice A222_1 ((rd_T40 l0_0 x31_1).f1).length c222_1, .int .i64 ((rd_T40 l0_0 x31_1).f2.f0), .int .i64 ((rd_T40 l0_0 x31_1).f2.f1), .slice none 0 0, .int .i64 0]) ?_ 4 _ rfl; (with_reducible repeat (first | refine blk_drewN ?_ _ | refine blk_drew ?_ | refine blk_alloc ?_ _)); refine blk_put (cs := #[.int .i64 ((rd_T40 l0_0 x31_1).f0), .slice A222_1 ((rd_T40 l0_0 x31_1).f1).length c222_1, .int .i64 ((rd_T40 l0_0 x31_1).f2.f0), .int .i64 0, .slice none 0 0, .int .i64 0]) ?_ 3 _ rfl; (with_reducible repeat (first | refine blk_drewN ?_ _ | refine blk_drew ?_ | refine blk_alloc ?_ _)); refine blk_put (cs := #[.int .i64 ((rd_T40 l0_0 x31_1).f0), .slice A222_1 ((rd_T40 l0_0 x31_1).f1).length c222_1, .int .i64 0, .int .i64 0, .slice none 0 0, .int .i64 0]) ?_ 2 _ rfl; (with_reducible repeat (first | refine blk_drewN ?_ _ | refine blk_drew ?_ | refine blk_alloc ?_ _)); refine blk_put (cs := #[.int .i64 ((rd_T40 l0_0 x31_1).f0), .slice none 0 0, .int .i64 0, .int .i64 0, .slice none 0 0, .int .i64 0]) ?_ 1 _ rfl; (with_reducible repeat (first | refine blk_drewN ?_ _ | refine blk_drew ?_ | refine blk_alloc ?_ _)); refine blk_put (cs := #[.int .i64 0, .slice none 0 0, .int .i64 0, .int .i64 0, .slice none 0 0, .int .i64 0]) ?_ 0 _ rfl; (with_reducible repeat (first | refine blk_drewN ?_ _ | refine blk_drew ?_ | refine blk_alloc ?_ _)); exact BK223.out⟩
              have n3_ : Aside0 (Below w.heap.size w ((((((w22.setCell ⟨gb223, 0, none⟩ (.int .i64 ((rd_T40 l0_0 x31_1).f0))).setCell ⟨gb223, 1, none⟩ (.slice A222_1 ((rd_T40 l0_0 x31_1).f1).length c222_1)).setCell ⟨gb223, 2, none⟩ (.int .i64 ((rd_T40 l0_0 x31_1).f2.f0))).setCell ⟨gb223, 3, none⟩ (.int .i64 ((rd_T40 l0_0 x31_1).f2.f1))).setCell ⟨gb223, 4, none⟩ (.slice A222_4 ((rd_T40 l0_0 x31_1).f2.f2).length c222_4)).setCell ⟨gb223, 5, none⟩ (.int .i64 ((rd_T40 l0_0 x31_1).f3)))) := ⟨by repeat (first | (with_reducible first | exact HB.out | apply below_alloc | apply pw_below_drewN | apply below_drew1 | refine below_set ?_ GE213.out | refine below_set ?_ GE223.out) | exact HB.out)⟩
              (try clear HO_6)
              (try clear BK213)
              (try clear BK223)
              (try clear HB)
              generalize ((((((w22.setCell ⟨gb223, 0, none⟩ (.int .i64 ((rd_T40 l0_0 x31_1).f0))).setCell ⟨gb223, 1, none⟩ (.slice A222_1 ((rd_T40 l0_0 x31_1).f1).length c222_1)).setCell ⟨gb223, 2, none⟩ (.int .i64 ((rd_T40 l0_0 x31_1).f2.f0))).setCell ⟨gb223, 3, none⟩ (.int .i64 ((rd_T40 l0_0 x31_1).f2.f1))).setCell ⟨gb223, 4, none⟩ (.slice A222_4 ((rd_T40 l0_0 x31_1).f2.f2).length c222_4)).setCell ⟨gb223, 5, none⟩ (.int .i64 ((rd_T40 l0_0 x31_1).f3))) = w25 at n0_ n1_ n2_ n3_ ⊢
              have HO_6 := n0_
              have BK213 := n1_
              have BK223 := n2_
              have HB := n3_
              clear n0_ n1_ n2_ n3_
              have n0_ := Aside0.mk (Kd.R_drew HO_6.out)
              have n1_ := Aside0.mk (blk_drew BK213.out)
              have n2_ := Aside0.mk (blk_drew BK223.out)
              have n3_ := Aside0.mk (below_drew1 HB.out)
              clear HO_6
              clear BK213
              clear BK223
              clear HB
              have HO_6 := n0_
              have BK213 := n1_
              have BK223 := n2_
              have HB := n3_
              clear n0_ n1_ n2_ n3_
              obtain ⟨Ao27, co27, eo27⟩ := Kd.R_slice HO_6.out
              (first | subst eo27 | (injection eo27 with f1_ f2_ f3_; have f4_ := f1_.symm; have f5_ := f3_.symm; clear f1_ f2_ f3_; subst f4_; subst f5_))
              refine start_ (n := 12) (S := fun w' => w'.cell? ⟨gb223, 0, none⟩ = some (.int .i64 ((rd_T40 l0_0 x31_1).f0)) ∧ w'.cell? ⟨gb223, 1, none⟩ = some (.slice A222_1 ((rd_T40 l0_0 x31_1).f1).length c222_1) ∧ w'.cell? ⟨gb223, 2, none⟩ = some (.int .i64 ((rd_T40 l0_0 x31_1).f2.f0)) ∧ w'.cell? ⟨gb223, 3, none⟩ = some (.int .i64 ((rd_T40 l0_0 x31_1).f2.f1)) ∧ w'.cell? ⟨gb223, 4, none⟩ = some (.slice A222_4 ((rd_T40 l0_0 x31_1).f2.f2).length c222_4) ∧ w'.cell? ⟨gb223, 5, none⟩ = some (.int .i64 ((rd_T40 l0_0 x31_1).f3))) (ds := []) #[false, false, false, false, false, false, false, false, false, false, false, false] (by kernel_rfl) rfl rfl ⟨(blk_cell BK223.out 0).trans rfl, (blk_cell BK223.out 1).trans rfl, (blk_cell BK223.out 2).trans rfl, (blk_cell BK223.out 3).trans rfl, (blk_cell BK223.out 4).trans rfl, (blk_cell BK223.out 5).trans rfl⟩ (fun hHeld => ?_); refine with_tabW topo_Bytes.tab8 topo_Bytes.bits8 (fun HT_ HW_ => ?_)
              generalize w25.drew = w26 at HO_6 BK213 BK223 HB hHeld ⊢
              refine pure_ (i := 0) (N := some 35) (v := ?_) (a' := ?_) #[true, false, false, false, false, false, false, false, false, false, false, false] rfl rfl (any_of HT_.out (by kernel_rfl)) (fun _ _ _ h => h) (Or.inl ⟨by rfl, ?_⟩) ?_ ?_
              rotate_left
              · intro w'
                go_simp
                with_reducible rfl
              rotate_left
              · simp only [Act.put, List.setIfInBounds_toArray, List.set_cons_zero, List.set_cons_succ, i64_w, i32_w]
                rfl
              refine pure_ (i := 1) (N := some 36) (v := ?_) (a' := ?_) #[true, true, false, false, false, false, false, false, false, false, false, false] rfl rfl (any_of HT_.out (by kernel_rfl)) (fun _ _ _ h => h) (Or.inl ⟨by rfl, ?_⟩) ?_ ?_
              rotate_left
              · intro w'
                go_simp
                with_reducible rfl
              rotate_left
              · simp only [Act.put, List.setIfInBounds_toArray, List.set_cons_zero, List.set_cons_succ, i64_w, i32_w]
                rfl
              refine pure_ (i := 5) (N := some 40) (v := ?_) (a' := ?_) #[true, true, false, false, false, true, false, false, false, false, false, false] rfl rfl (any_of HT_.out (by kernel_rfl)) (fun _ _ _ h => h) (Or.inl ⟨by rfl, ?_⟩) ?_ ?_
              rotate_left
              · intro w'
                go_simp
                with_reducible rfl
              rotate_left
              · simp only [Act.put, List.setIfInBounds_toArray, List.set_cons_zero, List.set_cons_succ, i64_w, i32_w]
                rfl
              refine pure_ (i := 8) (N := some 43) (v := ?_) (a' := ?_) #[true, true, false, false, false, true, false, false, true, false, false, false] rfl rfl (any_of HT_.out (by kernel_rfl)) (fun _ _ _ h => h) (Or.inl ⟨by rfl, ?_⟩) ?_ ?_
              rotate_left
              · intro w'
                go_simp
                with_reducible rfl
              rotate_left
              · simp only [Act.put, List.setIfInBounds_toArray, List.set_cons_zero, List.set_cons_succ, i64_w, i32_w]
                rfl
              refine take_ (i := 2) (N := some 37) (v := ?_) (a' := ?_) #[true, true, true, false, false, true, false, false, true, false, false, false] rfl rfl (take_ofW HT_.out HW_.out (by kernel_rfl)) (fun _ _ _ h => h) (Or.inl ⟨by rfl, ?_⟩) hHeld ?_ ?_
              rotate_left
              · rintro w' ⟨s0, s1, s2, s3, s4, s5⟩
                go_simp
                with_reducible rfl
              rotate_left
              · simp only [Act.put, List.setIfInBounds_toArray, List.set_cons_zero, List.set_cons_succ, i64_w, i32_w]
                rfl
              refine pure_ (i := 3) (N := some 38) (v := ?_) (a' := ?_) #[true, true, true, true, false, true, false, false, true, false, false, false] rfl rfl (any_of HT_.out (by kernel_rfl)) (fun _ _ _ h => h) (Or.inl ⟨by rfl, ?_⟩) ?_ ?_
              rotate_left
              · intro w'
                go_simp
                with_reducible rfl
              rotate_left
              · simp only [Act.put, List.setIfInBounds_toArray, List.set_cons_zero, List.set_cons_succ, i64_w, i32_w]
                rfl
              refine take_ (i := 6) (N := some 41) (v := ?_) (a' := ?_) #[true, true, true, true, false, true, true, false, true, false, false, false] rfl rfl (take_ofW HT_.out HW_.out (by kernel_rfl)) (fun _ _ _ h => h) (Or.inl ⟨by rfl, ?_⟩) hHeld ?_ ?_
              rotate_left
              · rintro w' ⟨s0, s1, s2, s3, s4, s5⟩
                go_simp
                with_reducible rfl
              rotate_left
              · simp only [Act.put, List.setIfInBounds_toArray, List.set_cons_zero, List.set_cons_succ, i64_w, i32_w]
                rfl
              refine take_ (i := 9) (N := some 44) (v := ?_) (a' := ?_) #[true, true, true, true, false, true, true, false, true, true, false, false] rfl rfl (take_ofW HT_.out HW_.out (by kernel_rfl)) (fun _ _ _ h => h) (Or.inl ⟨by rfl, ?_⟩) hHeld ?_ ?_
              rotate_left
              · rintro w' ⟨s0, s1, s2, s3, s4, s5⟩
                go_simp
                with_reducible rfl
              rotate_left
              · simp only [Act.put, List.setIfInBounds_toArray, List.set_cons_zero, List.set_cons_succ, i64_w, i32_w]
                rfl
              refine one_ (i := 4) (N := some 39) #[true, true, true, true, true, true, true, false, true, true, false, false] rfl rfl (one_of HT_.out (by kernel_rfl)) (by decide) (fun K hK => ?_)
              refine goes_ Try.func23 (by kernel_rfl) rfl #[.slice Ao27 x6_1.length co27, .int .u64 (IntKind.u64.wrap ((rd_T40 l0_0 x31_1).f0))] (by rfl) rfl rfl (by (try simp only [List.map_toArray, List.map_cons, List.map_nil]); first | done | rfl | (simp only [List.length_drop, List.length_take]; rfl)) ?_
              with_reducible refine (pack_Uint.calls k1 _ _ x6_1 (IntKind.u64.wrap ((rd_T40 l0_0 x31_1).f0)) t224 _ ?side1 ?side2 A17.out).mono ?_
              (case side1 => repeat (first | exact (Kd.R_reads' HO_6.out).2.2 | (with_reducible refine Kd.C_alloc ?_ _) | (with_reducible refine Kd.C_drewN ?_ _) | (with_reducible refine Kd.C_drew ?_)))
              (case side2 => exact (Kd.R_reads' HO_6.out).2.1)
              rintro e w28 ⟨v225, rfl, ho0, hb⟩
              refine ⟨_, rfl, ?_⟩
              have n0_ := Aside0.mk (Kd.R_elder' (by (with_reducible repeat (first | apply Kd.R_alloc | apply Kd.R_drewN | apply Kd.R_drew)); exact HO_6.out) (Kd.R_base ho0) hb)
              have n1_ := Aside0.mk (Kd.R_lower (Kd.R_new' ho0 (Kd.R_lt (by (with_reducible repeat (first | apply Kd.R_alloc | apply Kd.R_drewN | apply Kd.R_drew)); exact HO_6.out))) (below_size (by repeat (first | (with_reducible first | exact HB.out | apply below_alloc | apply pw_below_drewN | apply below_drew1 | refine below_set ?_ GE213.out | refine below_set ?_ GE223.out) | exact HB.out))))
              have n2_ := Aside0.mk (blk_below (g := gb213) (o := .cells #[.slice (some ad222) l0_0.length c0_0, .int .i64 a0_1] 24 (0, 0)) (by (with_reducible repeat (first | refine blk_drewN ?_ _ | refine blk_drew ?_ | refine blk_alloc ?_ _)); exact BK213.out) hb)
              have n3_ := Aside0.mk (blk_below (g := gb223) (o := .cells #[.int .i64 ((rd_T40 l0_0 x31_1).f0), .slice A222_1 ((rd_T40 l0_0 x31_1).f1).length c222_1, .int .i64 ((rd_T40 l0_0 x31_1).f2.f0), .int .i64 ((rd_T40 l0_0 x31_1).f2.f1), .slice A222_4 ((rd_T40 l0_0 x31_1).f2.f2).length c222_4, .int .i64 ((rd_T40 l0_0 x31_1).f3)] 40 (0, 0)) (by (with_reducible repeat (first | refine blk_drewN ?_ _ | refine blk_drew ?_ | refine blk_alloc ?_ _)); exact BK223.out) hb)
              have n4_ := Aside0.mk (below_step (by repeat (first | (with_reducible first | exact HB.out | apply below_alloc | apply pw_below_drewN | apply below_drew1 | refine below_set ?_ GE213.out | refine below_set ?_ GE223.out) | exact HB.out)) hb)
              clear HO_6
              clear BK213
              clear BK223
              clear HB
              have HO_6 := n0_
              have HO226 := n1_
              have BK213 := n2_
              have BK223 := n3_
              have HB := n4_
              clear n0_ n1_ n2_ n3_ n4_
              (try clear hb)
              (try clear hb2)
              (try clear hk)
              (try clear hi)
              (try clear ho0)
              obtain ⟨Ao29, co29, eo29⟩ := Kd.R_slice HO226.out
              (first | subst eo29 | (injection eo29 with f1_ f2_ f3_; have f4_ := f1_.symm; have f5_ := f3_.symm; clear f1_ f2_ f3_; subst f4_; subst f5_))
              refine hK.out _ _ ⟨(blk_cell BK223.out 0).trans rfl, (blk_cell BK223.out 1).trans rfl, (blk_cell BK223.out 2).trans rfl, (blk_cell BK223.out 3).trans rfl, (blk_cell BK223.out 4).trans rfl, (blk_cell BK223.out 5).trans rfl⟩ (fun hHeld => ?_)
              clear hK K
              refine norm_ (a' := ?_) ?_ ?_
              rotate_left
              · show Act.put _ (some 39) _ = _
                simp only [Act.put, List.setIfInBounds_toArray, List.set_cons_zero, List.set_cons_succ, i64_w, i32_w]
                rfl
              refine one_ (i := 7) (N := some 42) #[true, true, true, true, true, true, true, true, true, true, false, false] rfl rfl (one_of HT_.out (by kernel_rfl)) (by decide) (fun K hK => ?_)
              refine goes_ Try.func25 (by kernel_rfl) rfl #[.slice Ao29 t224.length co29, .slice A222_1 ((rd_T40 l0_0 x31_1).f1).length c222_1] (by rfl) rfl rfl (by (try simp only [List.map_toArray, List.map_cons, List.map_nil]); first | done | rfl | (simp only [List.length_drop, List.length_take]; rfl)) ?_
              with_reducible refine (pack_Ints.calls k1 _ _ t224 _ _ ((rd_T40 l0_0 x31_1).f1) t227 _ ?side1 ?side2 ?side3 ?side4 A18.out).mono ?_
              (case side1 => repeat (first | exact (Kd.R_reads' HO226.out).2.2 | (with_reducible refine Kd.C_alloc ?_ _) | (with_reducible refine Kd.C_drewN ?_ _) | (with_reducible refine Kd.C_drew ?_)))
              (case side2 => exact (Kd.R_reads' HO226.out).2.1)
              (case side3 => repeat (first | exact (Kd.C_below HR222_1.out HB.out) | (with_reducible refine Kd.C_alloc ?_ _) | (with_reducible refine Kd.C_drewN ?_ _) | (with_reducible refine Kd.C_drew ?_)))
              (case side4 => exact HC222_1.out)
              rintro e w30 ⟨v228, rfl, ho0, hb⟩
              refine ⟨_, rfl, ?_⟩
              have n0_ := Aside0.mk (Kd.R_elder' (by (with_reducible repeat (first | apply Kd.R_alloc | apply Kd.R_drewN | apply Kd.R_drew)); exact HO_6.out) (Kd.R_base ho0) hb)
              have n1_ := Aside0.mk (Kd.R_elder' (by (with_reducible repeat (first | apply Kd.R_alloc | apply Kd.R_drewN | apply Kd.R_drew)); exact HO226.out) (Kd.R_base ho0) hb)
              have n2_ := Aside0.mk (Kd.R_lower (Kd.R_new' (Kd.R_new' ho0 (Kd.R_lt (by (with_reducible repeat (first | apply Kd.R_alloc | apply Kd.R_drewN | apply Kd.R_drew)); exact HO_6.out))) (Kd.R_lt (by (with_reducible repeat (first | apply Kd.R_alloc | apply Kd.R_drewN | apply Kd.R_drew)); exact HO226.out))) (below_size (by repeat (first | (with_reducible first | exact HB.out | apply below_alloc | apply pw_below_drewN | apply below_drew1 | refine below_set ?_ GE213.out | refine below_set ?_ GE223.out) | exact HB.out))))
              have n3_ := Aside0.mk (blk_below (g := gb213) (o := .cells #[.slice (some ad222) l0_0.length c0_0, .int .i64 a0_1] 24 (0, 0)) (by (with_reducible repeat (first | refine blk_drewN ?_ _ | refine blk_drew ?_ | refine blk_alloc ?_ _)); exact BK213.out) hb)
              have n4_ := Aside0.mk (blk_below (g := gb223) (o := .cells #[.int .i64 ((rd_T40 l0_0 x31_1).f0), .slice A222_1 ((rd_T40 l0_0 x31_1).f1).length c222_1, .int .i64 ((rd_T40 l0_0 x31_1).f2.f0), .int .i64 ((rd_T40 l0_0 x31_1).f2.f1), .slice A222_4 ((rd_T40 l0_0 x31_1).f2.f2).length c222_4, .int .i64 ((rd_T40 l0_0 x31_1).f3)] 40 (0, 0)) (by (with_reducible repeat (first | refine blk_drewN ?_ _ | refine blk_drew ?_ | refine blk_alloc ?_ _)); exact BK223.out) hb)
              have n5_ := Aside0.mk (below_step (by repeat (first | (with_reducible first | exact HB.out | apply below_alloc | apply pw_below_drewN | apply below_drew1 | refine below_set ?_ GE213.out | refine below_set ?_ GE223.out) | exact HB.out)) hb)
              clear HO_6
              clear HO226
              clear BK213
              clear BK223
              clear HB
              have HO_6 := n0_
              have HO226 := n1_
              have HO229 := n2_
              have BK213 := n3_
              have BK223 := n4_
              have HB := n5_
              clear n0_ n1_ n2_ n3_ n4_ n5_
              (try clear hb)
              (try clear hb2)
              (try clear hk)
              (try clear hi)
              (try clear ho0)
              obtain ⟨Ao31, co31, eo31⟩ := Kd.R_slice HO229.out
              (first | subst eo31 | (injection eo31 with f1_ f2_ f3_; have f4_ := f1_.symm; have f5_ := f3_.symm; clear f1_ f2_ f3_; subst f4_; subst f5_))
              refine hK.out _ _ ⟨(blk_cell BK223.out 0).trans rfl, (blk_cell BK223.out 1).trans rfl, (blk_cell BK223.out 2).trans rfl, (blk_cell BK223.out 3).trans rfl, (blk_cell BK223.out 4).trans rfl, (blk_cell BK223.out 5).trans rfl⟩ (fun hHeld => ?_)
              clear hK K
              refine norm_ (a' := ?_) ?_ ?_
              rotate_left
              · show Act.put _ (some 42) _ = _
                simp only [Act.put, List.setIfInBounds_toArray, List.set_cons_zero, List.set_cons_succ, i64_w, i32_w]
                rfl
              refine one_ (i := 10) (N := some 45) #[true, true, true, true, true, true, true, true, true, true, true, false] rfl rfl (one_of HT_.out (by kernel_rfl)) (by decide) (fun K hK => ?_)
              refine goes_ Try.func24 (by kernel_rfl) rfl #[.slice Ao31 t227.length co31, .int .i64 ((rd_T40 l0_0 x31_1).f3)] (by rfl) rfl rfl (by (try simp only [List.map_toArray, List.map_cons, List.map_nil]); first | done | rfl | (simp only [List.length_drop, List.length_take]; rfl)) ?_
              with_reducible refine (pack_Int.calls k1 _ _ t227 ((rd_T40 l0_0 x31_1).f3) t230 _ ?side1 ?side2 A19.out).mono ?_
              (case side1 => repeat (first | exact (Kd.R_reads' HO229.out).2.2 | (with_reducible refine Kd.C_alloc ?_ _) | (with_reducible refine Kd.C_drewN ?_ _) | (with_reducible refine Kd.C_drew ?_)))
              (case side2 => exact (Kd.R_reads' HO229.out).2.1)
              rintro e w32 ⟨v231, rfl, ho0, hb⟩
              refine ⟨_, rfl, ?_⟩
              have n0_ := Aside0.mk (Kd.R_elder' (by (with_reducible repeat (first | apply Kd.R_alloc | apply Kd.R_drewN | apply Kd.R_drew)); exact HO_6.out) (Kd.R_base ho0) hb)
              have n1_ := Aside0.mk (Kd.R_elder' (by (with_reducible repeat (first | apply Kd.R_alloc | apply Kd.R_drewN | apply Kd.R_drew)); exact HO226.out) (Kd.R_base ho0) hb)
              have n2_ := Aside0.mk (Kd.R_elder' (by (with_reducible repeat (first | apply Kd.R_alloc | apply Kd.R_drewN | apply Kd.R_drew)); exact HO229.out) (Kd.R_base ho0) hb)
              have n3_ := Aside0.mk (Kd.R_lower (Kd.R_new' (Kd.R_new' (Kd.R_new' ho0 (Kd.R_lt (by (with_reducible repeat (first | apply Kd.R_alloc | apply Kd.R_drewN | apply Kd.R_drew)); exact HO_6.out))) (Kd.R_lt (by (with_reducible repeat (first | apply Kd.R_alloc | apply Kd.R_drewN | apply Kd.R_drew)); exact HO226.out))) (Kd.R_lt (by (with_reducible repeat (first | apply Kd.R_alloc | apply Kd.R_drewN | apply Kd.R_drew)); exact HO229.out))) (below_size (by repeat (first | (with_reducible first | exact HB.out | apply below_alloc | apply pw_below_drewN | apply below_drew1 | refine below_set ?_ GE213.out | refine below_set ?_ GE223.out) | exact HB.out))))
              have n4_ := Aside0.mk (blk_below (g := gb213) (o := .cells #[.slice (some ad222) l0_0.length c0_0, .int .i64 a0_1] 24 (0, 0)) (by (with_reducible repeat (first | refine blk_drewN ?_ _ | refine blk_drew ?_ | refine blk_alloc ?_ _)); exact BK213.out) hb)
              have n5_ := Aside0.mk (blk_below (g := gb223) (o := .cells #[.int .i64 ((rd_T40 l0_0 x31_1).f0), .slice A222_1 ((rd_T40 l0_0 x31_1).f1).length c222_1, .int .i64 ((rd_T40 l0_0 x31_1).f2.f0), .int .i64 ((rd_T40 l0_0 x31_1).f2.f1), .slice A222_4 ((rd_T40 l0_0 x31_1).f2.f2).length c222_4, .int .i64 ((rd_T40 l0_0 x31_1).f3)] 40 (0, 0)) (by (with_reducible repeat (first | refine blk_drewN ?_ _ | refine blk_drew ?_ | refine blk_alloc ?_ _)); exact BK223.out) hb)
              have n6_ := Aside0.mk (below_step (by repeat (first | (with_reducible first | exact HB.out | apply below_alloc | apply pw_below_drewN | apply below_drew1 | refine below_set ?_ GE213.out | refine below_set ?_ GE223.out) | exact HB.out)) hb)
              clear HO_6
              clear HO226
              clear HO229
              clear BK213
              clear BK223
              clear HB
              have HO_6 := n0_
              have HO226 := n1_
              have HO229 := n2_
              have HO232 := n3_
              have BK213 := n4_
              have BK223 := n5_
              have HB := n6_
              clear n0_ n1_ n2_ n3_ n4_ n5_ n6_
              (try clear hb)
              (try clear hb2)
              (try clear hk)
              (try clear hi)
              (try clear ho0)
              refine hK.out _ _ ⟨(blk_cell BK223.out 0).trans rfl, (blk_cell BK223.out 1).trans rfl, (blk_cell BK223.out 2).trans rfl, (blk_cell BK223.out 3).trans rfl, (blk_cell BK223.out 4).trans rfl, (blk_cell BK223.out 5).trans rfl⟩ (fun hHeld => ?_)
              clear hK K
              refine norm_ (a' := ?_) ?_ ?_
              rotate_left
              · show Act.put _ (some 45) _ = _
                simp only [Act.put, List.setIfInBounds_toArray, List.set_cons_zero, List.set_cons_succ, i64_w, i32_w]
                rfl
              refine pure_ (i := 11) (N := some 6) (v := ?_) (a' := ?_) #[true, true, true, true, true, true, true, true, true, true, true, true] rfl rfl (any_of HT_.out (by kernel_rfl)) (fun _ _ _ h => h) (Or.inl ⟨by rfl, ?_⟩) ?_ ?_
              rotate_left
              · intro w'
                go_simp
                with_reducible rfl
              rotate_left
              · simp only [Act.put, List.setIfInBounds_toArray, List.set_cons_zero, List.set_cons_succ, i64_w, i32_w]
                rfl
              refine done_ (done_of HT_.out (by kernel_rfl)) ?_
              have hcz33_0 : w32.cell? ⟨gb223, 0, none⟩ = some (.int .i64 ((rd_T40 l0_0 x31_1).f0)) := (blk_cell BK223.out 0).trans rfl
              have hcz33_1 : w32.cell? ⟨gb223, 1, none⟩ = some (.slice A222_1 ((rd_T40 l0_0 x31_1).f1).length c222_1) := (blk_cell BK223.out 1).trans rfl
              have hcz33_2 : w32.cell? ⟨gb223, 2, none⟩ = some (.int .i64 ((rd_T40 l0_0 x31_1).f2.f0)) := (blk_cell BK223.out 2).trans rfl
              have hcz33_3 : w32.cell? ⟨gb223, 3, none⟩ = some (.int .i64 ((rd_T40 l0_0 x31_1).f2.f1)) := (blk_cell BK223.out 3).trans rfl
              have hcz33_4 : w32.cell? ⟨gb223, 4, none⟩ = some (.slice A222_4 ((rd_T40 l0_0 x31_1).f2.f2).length c222_4) := (blk_cell BK223.out 4).trans rfl
              have hcz33_5 : w32.cell? ⟨gb223, 5, none⟩ = some (.int .i64 ((rd_T40 l0_0 x31_1).f3)) := (blk_cell BK223.out 5).trans rfl
              have hfz33_0 := blk_frozen BK223.out 0
              have hfz33_1 := blk_frozen BK223.out 1
              have hfz33_2 := blk_frozen BK223.out 2
              have hfz33_3 := blk_frozen BK223.out 3
              have hfz33_4 := blk_frozen BK223.out 4
              have hfz33_5 := blk_frozen BK223.out 5
              try go_wp2_with (first | ((with_reducible refine gate_callee (f := 26) rfl ?_); refine goesL_ (some 49) rfl rfl Try.func26 (by kernel_rfl) rfl #[.agg #[.int .i64 ((rd_T40 l0_0 x31_1).f2.f0), .int .i64 ((rd_T40 l0_0 x31_1).f2.f1), .slice A222_4 ((rd_T40 l0_0 x31_1).f2.f2).length c222_4]] rfl (by (try simp only [List.map_toArray, List.map_cons, List.map_nil]); first | done | rfl | (simp only [List.length_drop, List.length_take]; rfl)) ?_; (with_reducible refine (expr_Bytes.calls k1 ((rd_T40 l0_0 x31_1).f2.f0) ((rd_T40 l0_0 x31_1).f2.f1) _ _ ((rd_T40 l0_0 x31_1).f2.f2) t233 t236 _ ?side1 ?side2 A20.out).mono ?_); (case side1 => repeat (first | exact (Kd.C_below HR222_4.out HB.out) | (with_reducible refine Kd.C_alloc ?_ _) | (with_reducible refine Kd.C_drewN ?_ _) | (with_reducible refine Kd.C_drew ?_))); (case side2 => exact HC222_4.out); rintro e w34 ⟨v234, rfl, ho0, hb⟩; refine ⟨_, rfl, ?_⟩; have n0_ := Aside0.mk (Kd.R_elder' (by (with_reducible repeat (first | apply Kd.R_alloc | apply Kd.R_drewN | apply Kd.R_drew)); exact HO_6.out) (Kd.R_base ho0) hb); have n1_ := Aside0.mk (Kd.R_elder' (by (with_reducible repeat (first | apply Kd.R_alloc | apply Kd.R_drewN | apply Kd.R_drew)); exact HO226.out) (Kd.R_base ho0) hb); have n2_ := Aside0.mk (Kd.R_elder' (by (with_reducible repeat (first | apply Kd.R_alloc | apply Kd.R_drewN | apply Kd.R_drew)); exact HO229.out) (Kd.R_base ho0) hb); have n3_ := Aside0.mk (Kd.R_elder' (by (with_reducible repeat (first | apply Kd.R_alloc | apply Kd.R_drewN | apply Kd.R_drew)); exact HO232.out) (Kd.R_base ho0) hb); have n4_ := Aside0.mk (Kd.R_lower (Kd.R_new' (Kd.R_new' (Kd.R_new' (Kd.R_new' ho0 (Kd.R_lt (by (with_reducible repeat (first | apply Kd.R_alloc | apply Kd.R_drewN | apply Kd.R_drew)); exact HO_6.out))) (Kd.R_lt (by (with_reducible repeat (first | apply Kd.R_alloc | apply Kd.R_drewN | apply Kd.R_drew)); exact HO226.out))) (Kd.R_lt (by (with_reducible repeat (first | apply Kd.R_alloc | apply Kd.R_drewN | apply Kd.R_drew)); exact HO229.out))) (Kd.R_lt (by (with_reducible repeat (first | apply Kd.R_alloc | apply Kd.R_drewN | apply Kd.R_drew)); exact HO232.out))) (below_size (by repeat (first | (with_reducible first | exact HB.out | apply below_alloc | apply pw_below_drewN | apply below_drew1 | refine below_set ?_ GE213.out | refine below_set ?_ GE223.out) | exact HB.out)))); have n5_ := Aside0.mk (blk_below (g := gb213) (o := .cells #[.slice (some ad222) l0_0.length c0_0, .int .i64 a0_1] 24 (0, 0)) (by (with_reducible repeat (first | refine blk_drewN ?_ _ | refine blk_drew ?_ | refine blk_alloc ?_ _)); exact BK213.out) hb); have n6_ := Aside0.mk (blk_below (g := gb223) (o := .cells #[.int .i64 ((rd_T40 l0_0 x31_1).f0), .slice A222_1 ((rd_T40 l0_0 x31_1).f1).length c222_1, .int .i64 ((rd_T40 l0_0 x31_1).f2.f0), .int .i64 ((rd_T40 l0_0 x31_1).f2.f1), .slice A222_4 ((rd_T40 l0_0 x31_1).f2.f2).length c222_4, .int .i64 ((rd_T40 l0_0 x31_1).f3)] 40 (0, 0)) (by (with_reducible repeat (first | refine blk_drewN ?_ _ | refine blk_drew ?_ | refine blk_alloc ?_ _)); exact BK223.out) hb); have n7_ := Aside0.mk (below_step (by repeat (first | (with_reducible first | exact HB.out | apply below_alloc | apply pw_below_drewN | apply below_drew1 | refine below_set ?_ GE213.out | refine below_set ?_ GE223.out) | exact HB.out)) hb); clear HO_6; clear HO226; clear HO229; clear HO232; clear BK213; clear BK223; clear HB; have HO_6 := n0_; have HO226 := n1_; have HO229 := n2_; have HO232 := n3_; have HO235 := n4_; have BK213 := n5_; have BK223 := n6_; have HB := n7_; clear n0_ n1_ n2_ n3_ n4_ n5_ n6_ n7_; (try clear hb); (try clear hb2); (try clear hk); (try clear hi); (try clear ho0); obtain ⟨Ao35, co35, eo35⟩ := Kd.R_slice HO232.out; subst eo35; obtain ⟨Ao36, co36, eo36⟩ := Kd.R_slice HO235.out; subst eo36) | ((with_reducible refine gate_callee (f := 27) rfl ?_); refine goesL_ (some 54) rfl rfl Try.func27 (by kernel_rfl) rfl #[.slice Ao35 t230.length co35, .slice Ao36 t233.length co36] rfl (by (try simp only [List.map_toArray, List.map_cons, List.map_nil]); first | done | rfl | (simp only [List.length_drop, List.length_take]; rfl)) ?_; (with_reducible refine (pack_Bytes.calls k1 _ _ t230 _ _ t233 t237 _ ?side1 ?side2 ?side3 ?side4 A21.out).mono ?_); (case side1 => repeat (first | exact (Kd.R_reads' HO232.out).2.2 | (with_reducible refine Kd.C_alloc ?_ _) | (with_reducible refine Kd.C_drewN ?_ _) | (with_reducible refine Kd.C_drew ?_))); (case side2 => exact (Kd.R_reads' HO232.out).2.1); (case side3 => repeat (first | exact (Kd.R_reads' HO235.out).2.2 | (with_reducible refine Kd.C_alloc ?_ _) | (with_reducible refine Kd.C_drewN ?_ _) | (with_reducible refine Kd.C_drew ?_))); (case side4 => exact (Kd.R_reads' HO235.out).2.1); rintro e w37 ⟨v238, rfl, ho0, hb⟩; refine ⟨_, rfl, ?_⟩; have n0_ := Aside0.mk (Kd.R_elder' (by (with_reducible repeat (first | apply Kd.R_alloc | apply Kd.R_drewN | apply Kd.R_drew)); exact HO_6.out) (Kd.R_base ho0) hb); have n1_ := Aside0.mk (Kd.R_elder' (by (with_reducible repeat (first | apply Kd.R_alloc | apply Kd.R_drewN | apply Kd.R_drew)); exact HO226.out) (Kd.R_base ho0) hb); have n2_ := Aside0.mk (Kd.R_elder' (by (with_reducible repeat (first | apply Kd.R_alloc | apply Kd.R_drewN | apply Kd.R_drew)); exact HO229.out) (Kd.R_base ho0) hb); have n3_ := Aside0.mk (Kd.R_elder' (by (with_reducible repeat (first | apply Kd.R_alloc | apply Kd.R_drewN | apply Kd.R_drew)); exact HO232.out) (Kd.R_base ho0) hb); have n4_ := Aside0.mk (Kd.R_elder' (by (with_reducible repeat (first | apply Kd.R_alloc | apply Kd.R_drewN | apply Kd.R_drew)); exact HO235.out) (Kd.R_base ho0) hb); have n5_ := Aside0.mk (Kd.R_lower (Kd.R_new' (Kd.R_new' (Kd.R_new' (Kd.R_new' (Kd.R_new' ho0 (Kd.R_lt (by (with_reducible repeat (first | apply Kd.R_alloc | apply Kd.R_drewN | apply Kd.R_drew)); exact HO_6.out))) (Kd.R_lt (by (with_reducible repeat (first | apply Kd.R_alloc | apply Kd.R_drewN | apply Kd.R_drew)); exact HO226.out))) (Kd.R_lt (by (with_reducible repeat (first | apply Kd.R_alloc | apply Kd.R_drewN | apply Kd.R_drew)); exact HO229.out))) (Kd.R_lt (by (with_reducible repeat (first | apply Kd.R_alloc | apply Kd.R_drewN | apply Kd.R_drew)); exact HO232.out))) (Kd.R_lt (by (with_reducible repeat (first | apply Kd.R_alloc | apply Kd.R_drewN | apply Kd.R_drew)); exact HO235.out))) (below_size (by repeat (first | (with_reducible first | exact HB.out | apply below_alloc | apply pw_below_drewN | apply below_drew1 | refine below_set ?_ GE213.out | refine below_set ?_ GE223.out) | exact HB.out)))); have n6_ := Aside0.mk (blk_below (g := gb213) (o := .cells #[.slice (some ad222) l0_0.length c0_0, .int .i64 a0_1] 24 (0, 0)) (by (with_reducible repeat (first | refine blk_drewN ?_ _ | refine blk_drew ?_ | refine blk_alloc ?_ _)); exact BK213.out) hb); have n7_ := Aside0.mk (blk_below (g := gb223) (o := .cells #[.int .i64 ((rd_T40 l0_0 x31_1).f0), .slice A222_1 ((rd_T40 l0_0 x31_1).f1).length c222_1, .int .i64 ((rd_T40 l0_0 x31_1).f2.f0), .int .i64 ((rd_T40 l0_0 x31_1).f2.f1), .slice A222_4 ((rd_T40 l0_0 x31_1).f2.f2).length c222_4, .int .i64 ((rd_T40 l0_0 x31_1).f3)] 40 (0, 0)) (by (with_reducible repeat (first | refine blk_drewN ?_ _ | refine blk_drew ?_ | refine blk_alloc ?_ _)); exact BK223.out) hb); have n8_ := Aside0.mk (below_step (by repeat (first | (with_reducible first | exact HB.out | apply below_alloc | apply pw_below_drewN | apply below_drew1 | refine below_set ?_ GE213.out | refine below_set ?_ GE223.out) | exact HB.out)) hb); clear HO_6; clear HO226; clear HO229; clear HO232; clear HO235; clear BK213; clear BK223; clear HB; have HO_6 := n0_; have HO226 := n1_; have HO229 := n2_; have HO232 := n3_; have HO235 := n4_; have HO239 := n5_; have BK213 := n6_; have BK223 := n7_; have HB := n8_; clear n0_ n1_ n2_ n3_ n4_ n5_ n6_ n7_ n8_; (try clear hb); (try clear hb2); (try clear hk); (try clear hi); (try clear ho0)))
              go_roundg k1
              case measure => have := HK1.out; omega
              case rel => exact ⟨(t237), (wrap64 (x31_1 + 1)), (by first | rfl | (simp; done) | (simp [*]; done)), H', ⟨by have := HK1.out; omega⟩, ⟨by (with_reducible repeat (first | apply Kd.R_alloc | apply Kd.R_drewN | apply Kd.R_drew)); exact Kd.R_mono HO239.out (fun _ hk => trivial)⟩, ⟨by (with_reducible repeat (first | refine blk_drewN ?_ _ | refine blk_drew ?_ | refine blk_alloc ?_ _)); exact BK213.out⟩, ⟨by repeat (first | (with_reducible first | exact HB.out | apply below_alloc | apply pw_below_drewN | apply below_drew1 | refine below_set ?_ GE213.out | refine below_set ?_ GE223.out) | exact HB.out)⟩⟩
            · rw [if_neg c16] at H
              exact absurd H (by simp)
          · rw [if_neg c15] at H
            exact absurd H (by simp)
        · rw [if_neg c14] at H
          have c14b0 : decide (x31_1 < (l0_0.length : Int)) = false := decide_eq_false c14
          clear c14
          simp only [Option.some.injEq, Prod.mk.injEq] at H
          obtain ⟨rfl, rfl⟩ := H
          go_wp2
          go_ret2
          exact ⟨_, by first | rfl | (simp [errW_none, errW_some] <;> rfl) | (simp [*, errW_none, errW_some] <;> rfl), by (with_reducible repeat (first | apply Kd.R_alloc | apply Kd.R_drewN | apply Kd.R_drew)); exact HO_6.out, by repeat (first | (with_reducible first | exact HB.out | apply below_alloc | apply pw_below_drewN | apply below_drew1 | refine below_set ?_ GE213.out) | exact HB.out)⟩
  · rw [if_neg c3] at H
    have c3b0 : (t215 == 0) = false := beq_eq_false_iff_ne.mpr c3
    have c3b1 : (t215 != 0) = true := bne_iff_ne.mpr c3
    simp only [Option.some.injEq, Prod.mk.injEq] at H
    obtain ⟨rfl, rfl⟩ := H
    go_enter Try.func16, Try.ntmps16
    go_wp2_with (first | ((with_reducible refine gate_dst (N := 1) rfl ?_); refine box_event ?hg (N := 1) ?hd (cs := #[.slice A0_0 l0_0.length c0_0, .int .i64 a0_1]) (t := 24) ?hr ?_; (case hd => rfl); (case hg => rfl); (case hr => first | (go_simp; done) | (go_simp; rfl)); intro gb213 hg w38 hbox hb; have n0_ := Aside0.mk (below_step (by repeat (first | (with_reducible first | exact HB.out | apply below_alloc | apply pw_below_drewN | apply below_drew1) | exact HB.out)) hb); have n1_ := Aside0.mk (hbox); have n2_ := Aside0.mk ((by rw [hg]; exact (below_size (by repeat (first | (with_reducible first | exact HB.out | apply below_alloc | apply pw_below_drewN | apply below_drew1) | exact HB.out))) : w.heap.size ≤ gb213)); have n3_ := Aside0.mk ((by rw [hg]; exact (below_size (by repeat (first | (with_reducible first | exact HB.out | apply below_alloc | apply pw_below_drewN | apply below_drew1) | exact HB.out))) : w.heap.size ≤ gb213)); clear HB; have HB := n0_; have BK213 := n1_; have GW213 := n2_; have GE213 := n3_; clear n0_ n1_ n2_ n3_; clear hb hbox hg; have hcz39_0 : w38.cell? ⟨gb213, 0, none⟩ = some (.slice A0_0 l0_0.length c0_0) := (blk_cell BK213.out 0).trans rfl; have hcz39_1 : w38.cell? ⟨gb213, 1, none⟩ = some (.int .i64 a0_1) := (blk_cell BK213.out 1).trans rfl; have hfz39_0 := blk_frozen BK213.out 0; have hfz39_1 := blk_frozen BK213.out 1) | ((with_reducible refine gate_callee (f := 10) rfl ?_); refine goesL_ (some 13) rfl rfl Try.func10 (by kernel_rfl) rfl #[.agg #[.slice A0_0 l0_0.length c0_0, .int .i64 a0_1]] rfl (by (try simp only [List.map_toArray, List.map_cons, List.map_nil]); first | done | rfl | (simp only [List.length_drop, List.length_take]; rfl)) ?_; (with_reducible refine (topo_Check.calls _ _ l0_0 a0_1 t214 t215 _ ?side1 ?side2 A2.out).mono ?_); (case side1 => repeat (first | exact (Kd.C_below HR0_0.out HB.out) | (with_reducible refine Kd.C_alloc ?_ _) | (with_reducible refine Kd.C_drewN ?_ _) | (with_reducible refine Kd.C_drew ?_))); (case side2 => exact HC0_0.out); rintro e w40 ⟨rfl, hb⟩; refine ⟨_, rfl, ?_⟩; have n0_ := Aside0.mk (blk_below (g := gb213) (o := .cells #[.slice A0_0 l0_0.length c0_0, .int .i64 a0_1] 24 (0, 0)) (by (with_reducible repeat (first | refine blk_drewN ?_ _ | refine blk_drew ?_ | refine blk_alloc ?_ _)); exact BK213.out) hb); have n1_ := Aside0.mk (below_step (by repeat (first | (with_reducible first | exact HB.out | apply below_alloc | apply pw_below_drewN | apply below_drew1 | refine below_set ?_ GE213.out) | exact HB.out)) hb); clear BK213; clear HB; have BK213 := n0_; have HB := n1_; clear n0_ n1_; (try clear hb); (try clear hb2); (try clear hk); (try clear hi)))
    go_ret2
    exact ⟨_, by first | rfl | (simp [errW_none, errW_some] <;> rfl) | (simp [*, errW_none, errW_some] <;> rfl), by first | exact Kd.R_nil _ _ _ _ _ | exact Kd.N_nil _ _ _ _ _ | exact Kd.V_nil _ _ _ _ _ | exact Kd.Q_nil _ _ _ _ _ | exact Kd.S_nil _ _ _ _ _, by repeat (first | (with_reducible first | exact HB.out | apply below_alloc | apply pw_below_drewN | apply below_drew1 | refine below_set ?_ GE213.out) | exact HB.out)⟩

-- NOT PRINTED: function 28 (pack_From)

-- NOT PRINTED: function 31 (pack_Reader_Left)

-- NOT PRINTED: function 29 (pack_Reader_Uint)

-- NOT PRINTED: function 43 (pack_Reader_Int)

-- NOT PRINTED: function 42 (pack_Reader_Ints)

-- NOT PRINTED: function 44 (pack_Reader_Bytes)

-- NOT PRINTED: function 51 (expr_get)

end Go.Proofs.Yteanncfmaomhaaa.Ex
