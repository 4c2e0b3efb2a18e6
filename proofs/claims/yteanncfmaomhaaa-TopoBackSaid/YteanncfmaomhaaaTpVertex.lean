/- A vertex's error. -/
import Derived.Test.YteanncfmaomhaaaTpMap
import Derived.Test.YteanncfmaomhaaaMono
namespace Go.Proofs.Yteanncfmaomhaaa.Ex
open Go Go.RowKit Go.Maps Go.Proofs.YteanncfmaomhaaaW.PrintWords Go.Proofs.YteanncfmaomhaaaW.PrintLast Go.Proofs.YteanncfmaomhaaaW.PrintMore Go.Proofs.Yteanncfmaomhaaa.Mono
set_option linter.unusedVariables false
set_option linter.unusedSimpArgs false
def FVp (w : World) (v : Value) : Prop := v = formsV
theorem FVp.below {w w2 : World} {v : Value} (h : FVp w v) (_ : Below w.heap.size w w2) : FVp w2 v := h
def EqV (x : Value) (w : World) (v : Value) : Prop := v = x
theorem EqV.below {x : Value} {w w2 : World} {v : Value} (h : EqV x w v) (_ : Below w.heap.size w w2) : EqV x w2 v := h
theorem forms_T (w : World) : Calls Try.prog 33 #[] w fun e w' => ∃ v, e = .returned v ∧ FVp w' v ∧ Below w.heap.size w w' := (forms_ok w).mono fun e w' h => ⟨_, h.1, rfl, h.2⟩
def VPost (w0 : World) (l : List Vx) (i : Nat) (v : Vx) (bm n : Nat) (ks : List (Int × Int)) (e0 : Int) (e : Ending) (w' : World) : Prop := e = .returned (.int .i64 e0) ∧ Below w0.heap.size w0 w' ∧ (e0 = 0 → SV w' bm (n + 1) ((v.f0, v.f3) :: ks))
theorem VPost.bad {w0 : World} {l : List Vx} {i : Nat} {v : Vx} {bm n : Nat} {ks : List (Int × Int)} {e0 : Int} {w' : World} {x : Int} (h : vertOf l i v ks = e0) (hx : vertOf l i v ks = x) (hn : x ≠ 0) (hb : Below w0.heap.size w0 w') : VPost w0 l i v bm n ks e0 (.returned (.int .i64 x)) w' := by
  obtain rfl : x = e0 := hx.symm.trans h
  exact ⟨rfl, hb, fun h => absurd h hn⟩
section
variable {l : List Vx} {i : Nat} {v : Vx} {ks : List (Int × Int)}
theorem vert1 (h : v.f0 < 1 ∨ 10 < v.f0) : vertOf l i v ks = 1 := by unfold vertOf; rw [if_pos h]
theorem vert2 (h : ¬ (v.f0 < 1 ∨ 10 < v.f0)) (h2 : v.f1.any (badB i) = true) : vertOf l i v ks = 2 := by unfold vertOf; rw [if_neg h, if_pos h2]
theorem vert3 (h : ¬ (v.f0 < 1 ∨ 10 < v.f0)) (h2 : v.f1.any (badB i) = false) (h3 : hasB (fmOf v.f0) v = false) : vertOf l i v ks = 5 := by unfold vertOf; rw [if_neg h, if_neg (by simp [h2]), if_pos h3]
theorem vert4 (h : ¬ (v.f0 < 1 ∨ 10 < v.f0)) (h2 : v.f1.any (badB i) = false) (h3 : hasB (fmOf v.f0) v = true) (h4 : ((fmOf v.f0).own && decide ((v.f0, v.f3) ∈ ks)) = true) : vertOf l i v ks = 12 := by
  unfold vertOf; rw [if_neg h, if_neg (by simp [h2]), if_neg (by simp [h3]), if_pos (by simpa using h4)]
theorem vert5 (h : ¬ (v.f0 < 1 ∨ 10 < v.f0)) (h2 : v.f1.any (badB i) = false) (h3 : hasB (fmOf v.f0) v = true) (h4 : ((fmOf v.f0).own && decide ((v.f0, v.f3) ∈ ks)) = false) :
    vertOf l i v ks = if v.f1.any (sinkB l) = true then 5 else if v.f0 = 9 ∧ (vAt l (rd v.f1 1)).f0 ≠ 6 then 5 else 0 := by
  unfold vertOf; rw [if_neg h, if_neg (by simp [h2]), if_neg (by simp [h3]), if_neg (by intro hh; simp [hh.1, hh.2] at h4)]
end
set_option maxHeartbeats 8000000 in
set_option maxRecDepth 100000 in
theorem vertex_ok (w0 w : World) (l : List Vx) (A0 : Option Addr) (c0 : Nat) (p : Int) (i : Nat) (bm n : Nat) (ks : List (Int × Int)) (hC : Kd.C k40 w0 A0 l.length l) (hi : i < l.length) (hB : Below w0.heap.size w0 w) (hS : SV w bm n ks) (hm : w0.heap.size ≤ bm) (hn : n < 1000) (hv : okV l = true) :
    Calls Try.prog 20 #[.agg #[.slice A0 l.length c0, .int .i64 p], .int .i64 (i : Int), .map (some bm)] w fun e w' => VPost w0 l i (vAt l (i : Int)) bm n ks (vertOf l i (vAt l (i : Int)) ks) e w' := by
  have HV3 : Aside0 (I64 (vAt l (i : Int)).f3) := ⟨by
    have := List.all_eq_true.1 hv (vAt l (i : Int)) (by unfold vAt rd_T40; rw [Int.toNat_natCast, List.getD_eq_getElem?_getD, List.getElem?_eq_getElem hi]; exact List.getElem_mem _)
    simpa [I64] using this⟩
  obtain ⟨ad, A1, c1, A4, c4, rfl, x0, x1, x2, x3, x4, x5, l1, r1, l4, r4⟩ := at_T40 hC (i : Int) (by omega) (by omega)
  replace x0 := pw_cell_below hB x0
  replace x1 := pw_cell_below hB x1
  replace x2 := pw_cell_below hB x2
  replace x3 := pw_cell_below hB x3
  replace x4 := pw_cell_below hB x4
  replace x5 := pw_cell_below hB x5
  have HC := Aside0.mk hC
  have HB := Aside0.mk hB
  have HS := Aside0.mk hS
  have HM := Aside0.mk hm
  have HN := Aside0.mk hn
  have HLM : Aside0 (bm < w.heap.size) := ⟨hS.lt⟩
  clear hC hB hS hm hn hv
  change Calls _ _ _ _ fun e w' => VPost w0 l i (rd_T40 l (i : Int)) bm n ks (vertOf l i (rd_T40 l (i : Int)) ks) e w'
  change Aside0 (I64 (rd_T40 l (i : Int)).f3) at HV3
  obtain ⟨v, HVV⟩ : ∃ v, Aside0 (rd_T40 l (i : Int) = v) := ⟨_, ⟨rfl⟩⟩
  rw [HVV.out] at x0 x1 x2 x3 x4 x5 l1 r1 l4 r4 HV3 ⊢
  simp only [Int.toNat_natCast] at x0 x1 x2 x3 x4 x5
  obtain ⟨e0, HE⟩ : ∃ e, Aside0 (vertOf l i v ks = e) := ⟨_, ⟨rfl⟩⟩
  rw [HE.out]
  have L1 := Aside0.mk l1
  have R1 := Aside0.mk r1
  have L4 := Aside0.mk l4
  have R4 := Aside0.mk r4
  clear l1 r1 l4 r4
  have hil : (i : Int) < (l.length : Int) := by omega
  go_enter Try.func20, Try.ntmps20
  go_upto_region 1 with fail
  have hb_ := below_alloc (Below.refl w.heap.size w) (.cells #[.slice (some ad) l.length c0, .int .i64 p] 24)
  have HBT := Aside0.mk (blk_new w (.cells #[.slice (some ad) l.length c0, .int .i64 p] 24))
  replace x0 := pw_cell_below hb_ x0
  replace x1 := pw_cell_below hb_ x1
  replace x2 := pw_cell_below hb_ x2
  replace x3 := pw_cell_below hb_ x3
  replace x4 := pw_cell_below hb_ x4
  replace x5 := pw_cell_below hb_ x5
  replace HB := Aside0.mk (below_step HB.out hb_)
  replace HS := Aside0.mk (HS.out.below hb_)
  generalize w.alloc (.cells #[.slice (some ad) l.length c0, .int .i64 p] 24) = w1 at hb_ HBT x0 x1 x2 x3 x4 x5 HB HS ⊢
  have HLT : Aside0 (bm < w.heap.size ∧ w.heap.size < w1.heap.size) := ⟨⟨HLM.out, blk_lt HBT.out⟩⟩
  clear HLM
  obtain ⟨gt, HGT⟩ : ∃ g, Aside0 (w.heap.size = g) := ⟨_, ⟨rfl⟩⟩
  rw [HGT.out] at HBT HLT ⊢
  clear hb_ HGT
  have z0_ := (blk_cell HBT.out 0).trans (rfl : _ = some (.slice (some ad) l.length c0 : Value))
  go_upto_region 2 with fail
  clear x0 x1 x2 x3 x4 x5 z0_
  have hb_ := below_alloc (Below.refl w1.heap.size w1) (.cells #[.int .i64 v.f0, .slice A1 v.f1.length c1, .int .i64 v.f2.f0, .int .i64 v.f2.f1, .slice A4 v.f2.f2.length c4, .int .i64 v.f3] 40)
  have HB7 := Aside0.mk (blk_new w1 (.cells #[.int .i64 v.f0, .slice A1 v.f1.length c1, .int .i64 v.f2.f0, .int .i64 v.f2.f1, .slice A4 v.f2.f2.length c4, .int .i64 v.f3] 40))
  replace HBT := Aside0.mk (blk_below HBT.out hb_)
  replace HB := Aside0.mk (below_step HB.out hb_)
  replace HS := Aside0.mk (HS.out.below hb_)
  generalize w1.alloc (.cells #[.int .i64 v.f0, .slice A1 v.f1.length c1, .int .i64 v.f2.f0, .int .i64 v.f2.f1, .slice A4 v.f2.f2.length c4, .int .i64 v.f3] 40) = w2 at hb_ HB7 HBT HB HS ⊢
  clear hb_
  obtain ⟨g7, HG7⟩ : ∃ g, Aside0 (w1.heap.size = g) := ⟨_, ⟨rfl⟩⟩
  rw [HG7.out] at HB7 HLT ⊢
  clear HG7
  have y0_ := (blk_cell HB7.out 0).trans (rfl : _ = some (.int .i64 v.f0 : Value))

  by_cases hk : v.f0 < 1 ∨ 10 < v.f0
  · have HE1 := Aside0.mk (vert1 (l := l) (i := i) (ks := ks) hk)
    rcases Int.lt_or_le v.f0 1 with hk1 | hk1
    · have hk1b : decide (v.f0 < 1) = true := by simpa using hk1
      clear hk hk1
      go_wp2_with fail
      go_ret
      exact VPost.bad HE.out HE1.out (by decide) HB.out
    · have hk1b : decide (v.f0 < 1) = false := by simp; omega
      have hk2b : decide (v.f0 > 10) = true := by simp; omega
      clear hk hk1
      go_wp2_with fail
      go_ret
      exact VPost.bad HE.out HE1.out (by decide) HB.out
  have HKD := Aside0.mk hk
  have hk1b : decide (v.f0 < 1) = false := by simp; omega
  have hk2b : decide (v.f0 > 10) = false := by simp; omega
  clear hk
  go_upto_region 4 with fail
  clear hk1b hk2b y0_
  have y1_ := (blk_cell HB7.out 1).trans (rfl : _ = some (.slice A1 v.f1.length c1 : Value))

  go_wp2_with fail
  clear y1_
  go_loop [29] (fun v29 => ∃ k : Nat, k ≤ v.f1.length ∧ v29 = .int .i64 (k : Int) ∧ Aside0 ((v.f1.take k).any (badB i) = false)) (fun v29 => v.f1.length - (intOf v29).toNat)
  case atStart => exact ⟨0, by omega, rfl, ⟨rfl⟩⟩
  case round =>
    obtain ⟨k, hkl, rfl, HA⟩ := hrel
    by_cases hlt : k < v.f1.length
    · have h1 : decide ((k : Int) < (v.f1.length : Int)) = true := by simp; omega
      have h1b : decide (k < v.f1.length) = true := by simp; omega
      have hm1 : v.f1.length ≤ 9223372036854775807 := R1.out.2.1
      obtain ⟨a1, hA, y0⟩ := Kd.at_int (Kd.C_below R1.out HB.out) (k : Int) (by omega) (by omega)
      have HT := Aside0.mk (take_any (badB i) v.f1 k hlt)
      have HANY := Aside0.mk (fun h => any_of_take (g := badB i) hlt h)
      obtain ⟨x, HXV⟩ : ∃ x, Aside0 (rd v.f1 (k : Int) = x) := ⟨_, ⟨rfl⟩⟩
      rw [HXV.out] at y0 HT HANY
      simp only [Int.toNat_natCast] at y0
      subst hA
      rcases Int.lt_or_le x 0 with hx | hx
      · have hxb : decide (x < 0) = true := by simpa using hx
        have HE1 := Aside0.mk (vert2 (l := l) (ks := ks) HKD.out (HANY.out (by unfold badB; rw [hxb]; rfl)))
        clear hx HANY HT
        go_wp2_with fail
        go_ret
        exact VPost.bad HE.out HE1.out (by decide) HB.out
      have hxb : decide (x < 0) = false := by simp; omega
      rcases Int.lt_or_le x (i : Int) with hx2 | hx2
      · have hxc : decide (x ≥ (i : Int)) = false := by simp; omega
        have HBD : Aside0 (badB i x = false) := ⟨by unfold badB; rw [hxb]; exact hxc⟩
        clear hx hx2 HANY
        go_wp2_with fail
        go_roundw
        case rel => exact ⟨k + 1, by omega, by go_num, ⟨by rw [HT.out, HA.out, HBD.out]; rfl⟩⟩
        case measure => simp [intOf]; omega
      · have hxc : decide (x ≥ (i : Int)) = true := by simpa using hx2
        have HE1 := Aside0.mk (vert2 (l := l) (ks := ks) HKD.out (HANY.out (by unfold badB; rw [hxb]; exact hxc)))
        clear hx hx2 HANY HT
        go_wp2_with fail
        go_ret
        exact VPost.bad HE.out HE1.out (by decide) HB.out
    · obtain rfl : k = v.f1.length := by omega
      have HA2 : Aside0 (v.f1.any (badB i) = false) := ⟨by have := HA.out; rwa [List.take_length] at this⟩
      clear HA hkl hlt
      go_upto_region 10 with fail
      have HKR : Aside0 (1 ≤ v.f0 ∧ v.f0 ≤ 10) := ⟨by have := HKD.out; omega⟩
      obtain ⟨fm, HFM⟩ : ∃ f, Aside0 (fmOf v.f0 = f) := ⟨_, ⟨rfl⟩⟩
      have HFMV : Aside0 (∀ w' : World, (Result.ok (Next.value (formV (fmOf v.f0))) w' : Result Next) = Result.ok (Next.value (.agg #[.int .i64 fm.fr, .bool fm.e, .bool fm.acc, .int .i64 fm.least, .int .i64 fm.most, .bool fm.own])) w') := ⟨fun w' => by rw [HFM.out]; rfl⟩
      refine start_ (n := 6) (S := fun w' => Below w2.heap.size w2 w') (ds := []) #[false, false, false, false, false, false] (by kernel_rfl) rfl rfl (below_drew (Below.refl _ _)) (fun hHeld => ?_)
      refine pure_ (i := 1) (N := some 42) (v := ?_) (a' := ?_) #[false, true, false, false, false, false] rfl rfl (by kernel_rfl) (fun _ _ _ h => h) (Or.inl ⟨by rfl, ?_⟩) ?_ ?_
      rotate_left
      · intro w'
        go_simp
        with_reducible rfl
      rotate_left
      · simp only [Act.put, List.setIfInBounds_toArray, List.set_cons_zero, List.set_cons_succ, i64_w, i32_w]
        rfl
      refine take_ (i := 2) (N := some 43) (v := ?_) (a' := ?_) #[false, true, true, false, false, false] rfl rfl (by kernel_rfl) (fun _ _ _ h => h) (Or.inl ⟨by rfl, ?_⟩) hHeld ?_ ?_
      rotate_left
      · intro w' hS
        have y0_ := (blk_cell (blk_below HB7.out hS) 0).trans (rfl : _ = some (.int .i64 v.f0 : Value))
        go_simp
        with_reducible rfl
      rotate_left
      · simp only [Act.put, List.setIfInBounds_toArray, List.set_cons_zero, List.set_cons_succ, i64_w, i32_w]
        rfl
      refine mono_ (l := #[false, true, true, false, false, false]) [⟨0, 41, []⟩, ⟨3, 44, [0]⟩, ⟨4, 10, []⟩] #[true, true, true, true, true, false] (fun s v w_ => (s = 41 → FVp w_ v) ∧ (s = 44 → EqV (.agg #[.int .i64 fm.fr, .bool fm.e, .bool fm.acc, .int .i64 fm.least, .int .i64 fm.most, .bool fm.own]) w_ v) ∧ (s = 10 → AL w2.heap.size 71 #[.int .i64 0, .bool false, .bool false, .int .i64 0, .int .i64 0, .bool false] w_ v) ∧ True) (fun w_ => Below w2.heap.size w2 w_) 1 (by kernel_rfl) (by kernel_rfl) ?_ (fun _ h => h) hHeld ?_ ?_ ?_
      · simp
      · intro s v w_ w2_ h hb
        exact ⟨fun e => (h.1 e).below hb, fun e => (h.2.1 e).below hb, fun e => (h.2.2.1 e).below hb, trivial⟩
      · intro c hc a2 w2_ hG hbase hdep
        simp only [List.mem_cons, List.not_mem_nil, or_false] at hc
        rcases hc with rfl | rfl | rfl
        · skip
          refine wpOp_mono (fun a3 w3_ h => ?_) (callM_ (w0 := w2) (T := fun v w_ => FVp w_ v) (by rfl) rfl rfl Try.func33 (by kernel_rfl) rfl #[] rfl (by simp only [List.map_toArray, List.map_cons, List.map_nil, eval_const]) hG (forms_T w2_))
          obtain ⟨v, h1, h2, h3, h4⟩ := h
          exact ⟨v, h1, ⟨fun _ => h2, fun e => absurd e (by decide), fun e => absurd e (by decide), trivial⟩, h3, h4⟩
        · skip
          obtain ⟨v41, e41, k_⟩ := hdep ⟨0, 41, []⟩ (by simp) (by simp)
          have k41 : FVp w2_ v41 := k_.1 rfl
          have e43 := (hbase 43 (by simp)).trans (rfl : _ = some (.int .i64 v.f0 : Value))
          refine wpOp_mono (fun a3 w3_ h => ?_) (valueM_ (w0 := w2) (T := fun v w_ => EqV (.agg #[.int .i64 fm.fr, .bool fm.e, .bool fm.acc, .int .i64 fm.least, .int .i64 fm.most, .bool fm.own]) w_ v) (w1 := w2_) (by rfl) rfl rfl ((idx_run v.f0 HKR.out _ _ (.tmp 41) (.tmp 43) rfl ((eval_tmp e41).trans k41) (eval_tmp e43) _).trans (HFMV.out _)) hG rfl (Below.refl _ _))
          obtain ⟨v, h1, h2, h3, h4⟩ := h
          exact ⟨v, h1, ⟨fun e => absurd e (by decide), fun _ => h2, fun e => absurd e (by decide), trivial⟩, h3, h4⟩
        · skip
          refine wpOp_mono (fun a3 w3_ h => ?_) (valueM_ (w0 := w2) (T := fun v w_ => AL w2.heap.size 71 #[.int .i64 0, .bool false, .bool false, .int .i64 0, .int .i64 0, .bool false] w_ v) (w1 := w2_.alloc (.cells #[.int .i64 0, .bool false, .bool false, .int .i64 0, .int .i64 0, .bool false] 71)) (v := .pointer (some ⟨w2_.heap.size, 0, none⟩)) (by rfl) rfl rfl (by first | (go_simp; done) | (go_simp; rfl)) hG (AL.new _ _ _ _ hG) (below_alloc (Below.refl _ _) _))
          obtain ⟨v, h1, h2, h3, h4⟩ := h
          exact ⟨v, h1, ⟨fun e => absurd e (by decide), fun e => absurd e (by decide), fun _ => h2, trivial⟩, h3, h4⟩
      intro vs w2_ hG_ hT_
      have k41 := (hT_ ⟨0, 41, []⟩ (by simp)).1 rfl
      have k44 := (hT_ ⟨3, 44, [0]⟩ (by simp)).2.1 rfl
      have k10 := (hT_ ⟨4, 10, []⟩ (by simp)).2.2.1 rfl
      clear hT_ hHeld
      have hHeld := hG_
      refine norm_ (a' := ?_) ?_ ?_
      rotate_left
      · simp only [putAll, List.map_cons, List.map_nil, Act.put, List.setIfInBounds_toArray, List.set_cons_zero, List.set_cons_succ]
        rfl
      generalize vs 41 = v41 at k41 ⊢
      generalize vs 44 = v44 at k44 ⊢
      generalize vs 10 = v10 at k10 ⊢
      obtain rfl : v44 = .agg #[.int .i64 fm.fr, .bool fm.e, .bool fm.acc, .int .i64 fm.least, .int .i64 fm.most, .bool fm.own] := k44
      obtain rfl : v41 = formsV := k41
      refine one_ (i := 5) (N := none) #[true, true, true, true, true, true] rfl rfl (by kernel_rfl) (by simp) (fun K hK => ?_)
      obtain ⟨g10, rfl, b10_, ge10_⟩ := k10
      obtain ⟨w3, hw3_⟩ : ∃ y, y = w2_ := ⟨_, rfl⟩
      subst hw3_
      have x0_ := (blk_cell b10_ 0).trans (rfl : _ = some (.int .i64 0 : Value))
      have x1_ := (blk_cell b10_ 1).trans (rfl : _ = some (.bool false : Value))
      have x2_ := (blk_cell b10_ 2).trans (rfl : _ = some (.bool false : Value))
      have x3_ := (blk_cell b10_ 3).trans (rfl : _ = some (.int .i64 0 : Value))
      have x4_ := (blk_cell b10_ 4).trans (rfl : _ = some (.int .i64 0 : Value))
      have x5_ := (blk_cell b10_ 5).trans (rfl : _ = some (.bool false : Value))
      have f0_ := blk_frozen b10_ 0
      have f1_ := blk_frozen b10_ 1
      have f2_ := blk_frozen b10_ 2
      have f3_ := blk_frozen b10_ 3
      have f4_ := blk_frozen b10_ 4
      have f5_ := blk_frozen b10_ 5
      refine skip_ (w1 := ((((((w3.setCell ⟨g10, 0, none⟩ (.int .i64 fm.fr)).setCell ⟨g10, 1, none⟩ (.bool fm.e)).setCell ⟨g10, 2, none⟩ (.bool fm.acc)).setCell ⟨g10, 3, none⟩ (.int .i64 fm.least)).setCell ⟨g10, 4, none⟩ (.int .i64 fm.most)).setCell ⟨g10, 5, none⟩ (.bool fm.own))) (by rfl) rfl (by first | (go_simp; done) | (go_simp; rfl)) ?_
      clear x0_ f0_ x1_ f1_ x2_ f2_ x3_ f3_ x4_ f4_ x5_ f5_
      have hb_ : Below w2.heap.size w2 ((((((w3.setCell ⟨g10, 0, none⟩ (.int .i64 fm.fr)).setCell ⟨g10, 1, none⟩ (.bool fm.e)).setCell ⟨g10, 2, none⟩ (.bool fm.acc)).setCell ⟨g10, 3, none⟩ (.int .i64 fm.least)).setCell ⟨g10, 4, none⟩ (.int .i64 fm.most)).setCell ⟨g10, 5, none⟩ (.bool fm.own)) := below_set (below_set (below_set (below_set (below_set (below_set (hHeld) ge10_) ge10_) ge10_) ge10_) ge10_) ge10_
      refine hK.out _ _ hb_ (fun _ => ?_)
      clear hK K
      skip
      clear hb_
      refine done_ (by kernel_rfl) ?_

      have hb_ : Below w2.heap.size w2 ((((((w3.setCell ⟨g10, 0, none⟩ (.int .i64 fm.fr)).setCell ⟨g10, 1, none⟩ (.bool fm.e)).setCell ⟨g10, 2, none⟩ (.bool fm.acc)).setCell ⟨g10, 3, none⟩ (.int .i64 fm.least)).setCell ⟨g10, 4, none⟩ (.int .i64 fm.most)).setCell ⟨g10, 5, none⟩ (.bool fm.own)) := below_set (below_set (below_set (below_set (below_set (below_set hHeld ge10_) ge10_) ge10_) ge10_) ge10_) ge10_
      have B10 := Aside0.mk (blk_put (blk_set (blk_set (blk_set (blk_set (blk_set b10_ 0 (.int .i64 fm.fr)) 1 (.bool fm.e)) 2 (.bool fm.acc)) 3 (.int .i64 fm.least)) 4 (.int .i64 fm.most)) 5 (.bool fm.own) (rfl : _ = (#[.int .i64 fm.fr, .bool fm.e, .bool fm.acc, .int .i64 fm.least, .int .i64 fm.most, .bool fm.own] : Array Value)))
      generalize ((((((w3.setCell ⟨g10, 0, none⟩ (.int .i64 fm.fr)).setCell ⟨g10, 1, none⟩ (.bool fm.e)).setCell ⟨g10, 2, none⟩ (.bool fm.acc)).setCell ⟨g10, 3, none⟩ (.int .i64 fm.least)).setCell ⟨g10, 4, none⟩ (.int .i64 fm.most)).setCell ⟨g10, 5, none⟩ (.bool fm.own)) = w4 at hb_ B10 ⊢
      clear b10_ hG_ hHeld HFMV
      replace HBT := Aside0.mk (blk_below HBT.out hb_)
      replace HB7 := Aside0.mk (blk_below HB7.out hb_)
      replace HB := Aside0.mk (below_step HB.out hb_)
      replace HS := Aside0.mk (HS.out.below hb_)

      clear hb_ ge10_
      have a0_ := (blk_cell B10.out 0).trans (rfl : _ = some (.int .i64 fm.fr : Value))
      have a1_ := (blk_cell B10.out 1).trans (rfl : _ = some (.bool fm.e : Value))
      have a2_ := (blk_cell B10.out 2).trans (rfl : _ = some (.bool fm.acc : Value))
      have a3_ := (blk_cell B10.out 3).trans (rfl : _ = some (.int .i64 fm.least : Value))
      have a4_ := (blk_cell B10.out 4).trans (rfl : _ = some (.int .i64 fm.most : Value))
      have a5_ := (blk_cell B10.out 5).trans (rfl : _ = some (.bool fm.own : Value))
      have y0_ := (blk_cell HB7.out 0).trans (rfl : _ = some (.int .i64 v.f0 : Value))
      have y1_ := (blk_cell HB7.out 1).trans (rfl : _ = some (.slice A1 v.f1.length c1 : Value))
      have y2_ := (blk_cell HB7.out 2).trans (rfl : _ = some (.int .i64 v.f2.f0 : Value))
      have y3_ := (blk_cell HB7.out 3).trans (rfl : _ = some (.int .i64 v.f2.f1 : Value))
      have y4_ := (blk_cell HB7.out 4).trans (rfl : _ = some (.slice A4 v.f2.f2.length c4 : Value))
      have y5_ := (blk_cell HB7.out 5).trans (rfl : _ = some (.int .i64 v.f3 : Value))

      go_wp2_with fail
      refine (has_ok fm v A1 c1 A4 c4 w4 L4.out (Kd.C_below R4.out HB.out)).mono ?_
      rintro e_ w5 ⟨rfl, hb_⟩
      clear a0_ a1_ a2_ a3_ a4_ a5_ y0_ y1_ y2_ y3_ y4_ y5_
      replace HBT := Aside0.mk (blk_below HBT.out hb_)
      replace HB7 := Aside0.mk (blk_below HB7.out hb_)
      replace HB := Aside0.mk (below_step HB.out hb_)
      replace HS := Aside0.mk (HS.out.below hb_)
      replace B10 := Aside0.mk (blk_below B10.out hb_)

      clear hb_
      obtain ⟨hh, HH⟩ : ∃ h, Aside0 (hasB fm v = h) := ⟨_, ⟨rfl⟩⟩
      rw [HH.out]
      cases hh with
      | false =>
        have HE1 := Aside0.mk (vert3 (l := l) (ks := ks) HKD.out HA2.out (by rw [HFM.out]; exact HH.out))
        go_wp2_with fail
        go_ret
        exact VPost.bad HE.out HE1.out (by decide) HB.out
      | true =>
        have y0_ := (blk_cell HB7.out 0).trans (rfl : _ = some (.int .i64 v.f0 : Value))
        have y5_ := (blk_cell HB7.out 5).trans (rfl : _ = some (.int .i64 v.f3 : Value))

        go_upto_region 14 with fail
        clear y0_ y5_
        have hb_ := below_alloc (Below.refl w5.heap.size w5) (.cells #[.int .i64 v.f0, .int .i64 v.f3] 76)
        have B11 := Aside0.mk (blk_new w5 (.cells #[.int .i64 v.f0, .int .i64 v.f3] 76))
        generalize w5.alloc (.cells #[.int .i64 v.f0, .int .i64 v.f3] 76) = w6 at hb_ B11 ⊢
        obtain ⟨g11, HG11⟩ : ∃ g, Aside0 (w5.heap.size = g) := ⟨_, ⟨rfl⟩⟩
        rw [HG11.out] at B11 ⊢
        clear HG11
        replace HBT := Aside0.mk (blk_below HBT.out hb_)
        replace HB7 := Aside0.mk (blk_below HB7.out hb_)
        replace HB := Aside0.mk (below_step HB.out hb_)
        replace HS := Aside0.mk (HS.out.below hb_)
        replace B10 := Aside0.mk (blk_below B10.out hb_)

        clear hb_
        have HOK : Aside0 (okK (v.f0, v.f3)) := ⟨⟨by have := HKR.out; unfold I64; simp only; omega, HV3.out⟩⟩
        obtain ⟨d, HD⟩ : ∃ d, Aside0 (decide ((v.f0, v.f3) ∈ ks) = d) := ⟨_, ⟨rfl⟩⟩
        obtain ⟨t, HT⟩ : ∃ t, Aside0 ((fm.own && d) = t) := ⟨_, ⟨rfl⟩⟩
        go_cut [60] (fun v60 wc => v60 = .bool t ∧ wc = w6)
        case first =>
          have a5_ := (blk_cell B10.out 5).trans (rfl : _ = some (.bool fm.own : Value))
          have b0_ := (blk_cell B11.out 0).trans (rfl : _ = some (.int .i64 v.f0 : Value))
          have b1_ := (blk_cell B11.out 1).trans (rfl : _ = some (.int .i64 v.f3 : Value))
          have hlook := HS.out.look HOK.out
          unfold keyV at hlook
          rw [HD.out] at hlook
          have ht := HT.out
          clear HT
          obtain ⟨fo, HO⟩ : ∃ x, Aside0 (fm.own = x) := ⟨_, ⟨rfl⟩⟩
          rw [HO.out] at a5_ ht
          cases fo with
          | false =>
            obtain rfl : false = t := by simpa using ht
            go_wp2_with fail
            go_meet
            case rel => exact ⟨rfl, rfl⟩
          | true =>
            rw [Bool.true_and] at ht
            subst ht
            go_wp2_with fail
            go_meet
            case rel => exact ⟨rfl, rfl⟩
        case rest =>
          obtain ⟨rfl, rfl⟩ := hcut
          have HT2 : Aside0 (((fmOf v.f0).own && decide ((v.f0, v.f3) ∈ ks)) = t) := ⟨by rw [HFM.out, HD.out]; exact HT.out⟩
          have HH2 : Aside0 (hasB (fmOf v.f0) v = true) := ⟨by rw [HFM.out]; exact HH.out⟩
          clear HT HD HFM HH
          cases t with
          | true =>
            have HE1 := Aside0.mk (vert4 (l := l) HKD.out HA2.out HH2.out HT2.out)
            go_wp2_with fail
            go_ret
            exact VPost.bad HE.out HE1.out (by decide) HB.out
          | false =>
            have HE5 := Aside0.mk (vert5 (l := l) HKD.out HA2.out HH2.out HT2.out)
            rw [HE.out] at HE5
            obtain ⟨w7, hrun_, hs7_, hg7_⟩ := HS.out.put HOK.out (by have := HN.out; have : 1000 < maxLen := (by decide); omega)
            unfold keyV at hrun_
            have HRUN := Aside0.mk hrun_
            have b0_ := (blk_cell B11.out 0).trans (rfl : _ = some (.int .i64 v.f0 : Value))
            have b1_ := (blk_cell B11.out 1).trans (rfl : _ = some (.int .i64 v.f3 : Value))
            clear hrun_
            go_upto_region 17 with (at_mapUpdate; refine list_upd rfl rfl _ _ _ _ rfl HRUN.out ?_)
            clear b0_ b1_ HRUN
            have HS7 := Aside0.mk hs7_
            replace HBT := Aside0.mk (blk_grown HBT.out hg7_ (fun h => by injection h with h; have := HLT.out; omega))
            replace HB7 := Aside0.mk (blk_grown HB7.out hg7_ (fun h => by injection h with h; have := HLT.out; omega))
            replace HB := Aside0.mk (HB.out.grown hg7_ HB.out.size (fun k hk => by injection hk with hk; have := HM.out; omega))
            clear hs7_ hg7_ HS B10 B11
            have HXI : Aside0 (∀ x ∈ v.f1, 0 ≤ x ∧ x < (l.length : Int)) := ⟨fun x hx => by
              have h1 := List.any_eq_false.1 HA2.out x hx
              unfold badB at h1
              simp at h1
              omega⟩
            have y1_ := (blk_cell HB7.out 1).trans (rfl : _ = some (.slice A1 v.f1.length c1 : Value))
            go_wp2_with fail
            refine (contains_ok l (some ad) c0 p gt v.f1 A1 c1 w7 HBT.out (Kd.C_below HC.out HB.out) (Kd.C_below R1.out HB.out) HXI.out).mono ?_
            rintro e_ w8 ⟨rfl, hb_⟩
            clear y1_
            replace HBT := Aside0.mk (blk_below HBT.out hb_)
            replace HB7 := Aside0.mk (blk_below HB7.out hb_)
            replace HB := Aside0.mk (below_step HB.out hb_)
            replace HS7 := Aside0.mk (HS7.out.below hb_)
            clear hb_
            obtain ⟨sk, HSK⟩ : ∃ b, Aside0 (v.f1.any (sinkB l) = b) := ⟨_, ⟨rfl⟩⟩
            rw [HSK.out] at HE5 ⊢
            go_upto_region 18 with fail
            cases sk with
            | true =>
              have he5 := HE5.out
              rw [if_pos rfl] at he5
              subst he5
              clear HE5
              refine start_ (n := 18) (S := fun w' => Below w8.heap.size w8 w') (ds := []) #[false, false, false, false, false, false, false, false, false, false, false, false, false, false, false, false, false, false] (by kernel_rfl) rfl rfl (below_drew (Below.refl _ _)) (fun hHeld => ?_)
              refine pure_ (i := 0) (N := some 67) (v := ?_) (a' := ?_) #[true, false, false, false, false, false, false, false, false, false, false, false, false, false, false, false, false, false] rfl rfl (by kernel_rfl) (fun _ _ _ h => h) (Or.inl ⟨by rfl, ?_⟩) ?_ ?_
              rotate_left
              · intro w'
                go_simp
                with_reducible rfl
              rotate_left
              · simp only [Act.put, List.setIfInBounds_toArray, List.set_cons_zero, List.set_cons_succ, i64_w, i32_w]
                rfl
              refine pure_ (i := 1) (N := some 68) (v := ?_) (a' := ?_) #[true, true, false, false, false, false, false, false, false, false, false, false, false, false, false, false, false, false] rfl rfl (by kernel_rfl) (fun _ _ _ h => h) (Or.inl ⟨by rfl, ?_⟩) ?_ ?_
              rotate_left
              · intro w'
                go_simp
                with_reducible rfl
              rotate_left
              · simp only [Act.put, List.setIfInBounds_toArray, List.set_cons_zero, List.set_cons_succ, i64_w, i32_w]
                rfl
              refine pure_ (i := 2) (N := some 69) (v := undef) (a' := ?_) #[true, true, true, false, false, false, false, false, false, false, false, false, false, false, false, false, false, false] rfl rfl (by kernel_rfl) (fun _ _ _ h => h) (Or.inr ⟨by rfl, rfl⟩) ?_ ?_
              rotate_left
              · simp only [Act.put, List.setIfInBounds_toArray, List.set_cons_zero, List.set_cons_succ, i64_w, i32_w]
                rfl
              refine pure_ (i := 3) (N := some 70) (v := undef) (a' := ?_) #[true, true, true, true, false, false, false, false, false, false, false, false, false, false, false, false, false, false] rfl rfl (by kernel_rfl) (fun _ _ _ h => h) (Or.inr ⟨by rfl, rfl⟩) ?_ ?_
              rotate_left
              · simp only [Act.put, List.setIfInBounds_toArray, List.set_cons_zero, List.set_cons_succ, i64_w, i32_w]
                rfl
              refine pure_ (i := 4) (N := some 71) (v := undef) (a' := ?_) #[true, true, true, true, true, false, false, false, false, false, false, false, false, false, false, false, false, false] rfl rfl (by kernel_rfl) (fun _ _ _ h => h) (Or.inr ⟨by rfl, rfl⟩) ?_ ?_
              rotate_left
              · simp only [Act.put, List.setIfInBounds_toArray, List.set_cons_zero, List.set_cons_succ, i64_w, i32_w]
                rfl
              refine pure_ (i := 5) (N := some 72) (v := undef) (a' := ?_) #[true, true, true, true, true, true, false, false, false, false, false, false, false, false, false, false, false, false] rfl rfl (by kernel_rfl) (fun _ _ _ h => h) (Or.inr ⟨by rfl, rfl⟩) ?_ ?_
              rotate_left
              · simp only [Act.put, List.setIfInBounds_toArray, List.set_cons_zero, List.set_cons_succ, i64_w, i32_w]
                rfl
              refine pure_ (i := 6) (N := some 73) (v := undef) (a' := ?_) #[true, true, true, true, true, true, true, false, false, false, false, false, false, false, false, false, false, false] rfl rfl (by kernel_rfl) (fun _ _ _ h => h) (Or.inr ⟨by rfl, rfl⟩) ?_ ?_
              rotate_left
              · simp only [Act.put, List.setIfInBounds_toArray, List.set_cons_zero, List.set_cons_succ, i64_w, i32_w]
                rfl
              refine pure_ (i := 7) (N := some 74) (v := undef) (a' := ?_) #[true, true, true, true, true, true, true, true, false, false, false, false, false, false, false, false, false, false] rfl rfl (by kernel_rfl) (fun _ _ _ h => h) (Or.inr ⟨by rfl, rfl⟩) ?_ ?_
              rotate_left
              · simp only [Act.put, List.setIfInBounds_toArray, List.set_cons_zero, List.set_cons_succ, i64_w, i32_w]
                rfl
              refine pure_ (i := 8) (N := some 75) (v := undef) (a' := ?_) #[true, true, true, true, true, true, true, true, true, false, false, false, false, false, false, false, false, false] rfl rfl (by kernel_rfl) (fun _ _ _ h => h) (Or.inr ⟨by rfl, rfl⟩) ?_ ?_
              rotate_left
              · simp only [Act.put, List.setIfInBounds_toArray, List.set_cons_zero, List.set_cons_succ, i64_w, i32_w]
                rfl
              refine pure_ (i := 9) (N := some 76) (v := undef) (a' := ?_) #[true, true, true, true, true, true, true, true, true, true, false, false, false, false, false, false, false, false] rfl rfl (by kernel_rfl) (fun _ _ _ h => h) (Or.inr ⟨by rfl, rfl⟩) ?_ ?_
              rotate_left
              · simp only [Act.put, List.setIfInBounds_toArray, List.set_cons_zero, List.set_cons_succ, i64_w, i32_w]
                rfl
              refine pure_ (i := 10) (N := some 77) (v := undef) (a' := ?_) #[true, true, true, true, true, true, true, true, true, true, true, false, false, false, false, false, false, false] rfl rfl (by kernel_rfl) (fun _ _ _ h => h) (Or.inr ⟨by rfl, rfl⟩) ?_ ?_
              rotate_left
              · simp only [Act.put, List.setIfInBounds_toArray, List.set_cons_zero, List.set_cons_succ, i64_w, i32_w]
                rfl
              refine pure_ (i := 11) (N := some 78) (v := undef) (a' := ?_) #[true, true, true, true, true, true, true, true, true, true, true, true, false, false, false, false, false, false] rfl rfl (by kernel_rfl) (fun _ _ _ h => h) (Or.inr ⟨by rfl, rfl⟩) ?_ ?_
              rotate_left
              · simp only [Act.put, List.setIfInBounds_toArray, List.set_cons_zero, List.set_cons_succ, i64_w, i32_w]
                rfl
              refine pure_ (i := 12) (N := some 79) (v := undef) (a' := ?_) #[true, true, true, true, true, true, true, true, true, true, true, true, true, false, false, false, false, false] rfl rfl (by kernel_rfl) (fun _ _ _ h => h) (Or.inr ⟨by rfl, rfl⟩) ?_ ?_
              rotate_left
              · simp only [Act.put, List.setIfInBounds_toArray, List.set_cons_zero, List.set_cons_succ, i64_w, i32_w]
                rfl
              refine pure_ (i := 13) (N := some 80) (v := undef) (a' := ?_) #[true, true, true, true, true, true, true, true, true, true, true, true, true, true, false, false, false, false] rfl rfl (by kernel_rfl) (fun _ _ _ h => h) (Or.inr ⟨by rfl, rfl⟩) ?_ ?_
              rotate_left
              · simp only [Act.put, List.setIfInBounds_toArray, List.set_cons_zero, List.set_cons_succ, i64_w, i32_w]
                rfl
              refine pure_ (i := 14) (N := some 81) (v := undef) (a' := ?_) #[true, true, true, true, true, true, true, true, true, true, true, true, true, true, true, false, false, false] rfl rfl (by kernel_rfl) (fun _ _ _ h => h) (Or.inr ⟨by rfl, rfl⟩) ?_ ?_
              rotate_left
              · simp only [Act.put, List.setIfInBounds_toArray, List.set_cons_zero, List.set_cons_succ, i64_w, i32_w]
                rfl
              refine pure_ (i := 15) (N := some 82) (v := undef) (a' := ?_) #[true, true, true, true, true, true, true, true, true, true, true, true, true, true, true, true, false, false] rfl rfl (by kernel_rfl) (fun _ _ _ h => h) (Or.inr ⟨by rfl, rfl⟩) ?_ ?_
              rotate_left
              · simp only [Act.put, List.setIfInBounds_toArray, List.set_cons_zero, List.set_cons_succ, i64_w, i32_w]
                rfl
              refine pure_ (i := 16) (N := some 83) (v := undef) (a' := ?_) #[true, true, true, true, true, true, true, true, true, true, true, true, true, true, true, true, true, false] rfl rfl (by kernel_rfl) (fun _ _ _ h => h) (Or.inr ⟨by rfl, rfl⟩) ?_ ?_
              rotate_left
              · simp only [Act.put, List.setIfInBounds_toArray, List.set_cons_zero, List.set_cons_succ, i64_w, i32_w]
                rfl
              refine pure_ (i := 17) (N := some 84) (v := ?_) (a' := ?_) #[true, true, true, true, true, true, true, true, true, true, true, true, true, true, true, true, true, true] rfl rfl (by kernel_rfl) (fun _ _ _ h => h) (Or.inl ⟨by rfl, ?_⟩) ?_ ?_
              rotate_left
              · intro w'
                go_simp
                with_reducible rfl
              rotate_left
              · simp only [Act.put, List.setIfInBounds_toArray, List.set_cons_zero, List.set_cons_succ, i64_w, i32_w]
                rfl
              refine done_ (by kernel_rfl) ?_

              replace HB := Aside0.mk (below_drew HB.out)
              go_wp2_with fail
              go_ret
              exact ⟨rfl, HB.out, fun h => absurd h (by decide)⟩
            | false =>
              have he5 := HE5.out
              rw [if_neg (by decide)] at he5
              clear HE5
              by_cases h9 : v.f0 = 9
              · have hl2 : v.f1.length = 2 := by
                  have h := HH2.out
                  rw [h9] at h
                  unfold hasB at h
                  simp [fmOf] at h
                  omega
                have h9b : (v.f0 == 9) = true := by simpa using h9
                obtain ⟨a1, hA, q0_⟩ := Kd.at_int (Kd.C_below R1.out HB.out) 1 (by omega) (by omega)
                obtain ⟨x, HXV⟩ : ∃ x, Aside0 (rd v.f1 1 = x) := ⟨_, ⟨rfl⟩⟩
                have HX := Aside0.mk (HXI.out _ (rd_memI v.f1 1 (by omega)))
                change Aside0 (0 ≤ rd v.f1 1 ∧ rd v.f1 1 < (l.length : Int)) at HX
                rw [HXV.out] at q0_ HX he5
                obtain ⟨ad2, _, _, _, _, hA2, q2_, _⟩ := at_T40 (Kd.C_below HC.out HB.out) x HX.out.1 HX.out.2
                obtain rfl : ad = ad2 := by injection hA2
                unfold vAt at he5
                obtain ⟨u, HUV⟩ : ∃ u, Aside0 (rd_T40 l x = u) := ⟨_, ⟨rfl⟩⟩
                rw [HUV.out] at q2_ he5
                have X1 : Aside0 (w8.cell? ⟨a1.block, a1.off + 1, none⟩ = some (.int .i64 x)) := ⟨by have h := q0_; simpa [Addr.add] using h⟩
                have X2 := Aside0.mk q2_
                have hx0 := HX.out.1
                have hx1 := HX.out.2
                have hl3 : (1 : Int) < (v.f1.length : Int) := by omega
                subst hA
                clear hA2 q0_ q2_ hl2
                by_cases h6 : u.f0 = 6
                · rw [if_neg (fun h => h.2 h6)] at he5
                  subst he5
                  have h6b : (u.f0 != 6) = false := by simpa using h6
                  clear h6 h9
                  refine start_ (n := 18) (S := fun w' => Below w8.heap.size w8 w') (ds := []) #[false, false, false, false, false, false, false, false, false, false, false, false, false, false, false, false, false, false] (by kernel_rfl) rfl rfl (below_drew (Below.refl _ _)) (fun hHeld => ?_)
                  refine pure_ (i := 0) (N := some 67) (v := ?_) (a' := ?_) #[true, false, false, false, false, false, false, false, false, false, false, false, false, false, false, false, false, false] rfl rfl (by kernel_rfl) (fun _ _ _ h => h) (Or.inl ⟨by rfl, ?_⟩) ?_ ?_
                  rotate_left
                  · intro w'
                    go_simp
                    with_reducible rfl
                  rotate_left
                  · simp only [Act.put, List.setIfInBounds_toArray, List.set_cons_zero, List.set_cons_succ, i64_w, i32_w]
                    rfl
                  refine pure_ (i := 1) (N := some 68) (v := ?_) (a' := ?_) #[true, true, false, false, false, false, false, false, false, false, false, false, false, false, false, false, false, false] rfl rfl (by kernel_rfl) (fun _ _ _ h => h) (Or.inl ⟨by rfl, ?_⟩) ?_ ?_
                  rotate_left
                  · intro w'
                    go_simp
                    with_reducible rfl
                  rotate_left
                  · simp only [Act.put, List.setIfInBounds_toArray, List.set_cons_zero, List.set_cons_succ, i64_w, i32_w]
                    rfl
                  refine pure_ (i := 2) (N := some 69) (v := ?_) (a' := ?_) #[true, true, true, false, false, false, false, false, false, false, false, false, false, false, false, false, false, false] rfl rfl (by kernel_rfl) (fun _ _ _ h => h) (Or.inl ⟨by rfl, ?_⟩) ?_ ?_
                  rotate_left
                  · intro w'
                    go_simp
                    with_reducible rfl
                  rotate_left
                  · simp only [Act.put, List.setIfInBounds_toArray, List.set_cons_zero, List.set_cons_succ, i64_w, i32_w]
                    rfl
                  refine take_ (i := 3) (N := some 70) (v := ?_) (a' := ?_) #[true, true, true, true, false, false, false, false, false, false, false, false, false, false, false, false, false, false] rfl rfl (by kernel_rfl) (fun _ _ _ h => h) (Or.inl ⟨by rfl, ?_⟩) hHeld ?_ ?_
                  rotate_left
                  · intro w' hS
                    have y0_ := (blk_cell (blk_below HB7.out hS) 0).trans (rfl : _ = some (.int .i64 v.f0 : Value))
                    go_simp
                    with_reducible rfl
                  rotate_left
                  · simp only [Act.put, List.setIfInBounds_toArray, List.set_cons_zero, List.set_cons_succ, i64_w, i32_w]
                    rfl
                  refine pure_ (i := 4) (N := some 71) (v := ?_) (a' := ?_) #[true, true, true, true, true, false, false, false, false, false, false, false, false, false, false, false, false, false] rfl rfl (by kernel_rfl) (fun _ _ _ h => h) (Or.inl ⟨by rfl, ?_⟩) ?_ ?_
                  rotate_left
                  · intro w'
                    go_simp
                    with_reducible rfl
                  rotate_left
                  · simp only [Act.put, List.setIfInBounds_toArray, List.set_cons_zero, List.set_cons_succ, i64_w, i32_w]
                    rfl
                  refine pure_ (i := 5) (N := some 72) (v := ?_) (a' := ?_) #[true, true, true, true, true, true, false, false, false, false, false, false, false, false, false, false, false, false] rfl rfl (by kernel_rfl) (fun _ _ _ h => h) (Or.inl ⟨by rfl, ?_⟩) ?_ ?_
                  rotate_left
                  · intro w'
                    go_simp
                    with_reducible rfl
                  rotate_left
                  · simp only [Act.put, List.setIfInBounds_toArray, List.set_cons_zero, List.set_cons_succ, i64_w, i32_w]
                    rfl
                  refine pure_ (i := 6) (N := some 73) (v := ?_) (a' := ?_) #[true, true, true, true, true, true, true, false, false, false, false, false, false, false, false, false, false, false] rfl rfl (by kernel_rfl) (fun _ _ _ h => h) (Or.inl ⟨by rfl, ?_⟩) ?_ ?_
                  rotate_left
                  · intro w'
                    go_simp
                    with_reducible rfl
                  rotate_left
                  · simp only [Act.put, List.setIfInBounds_toArray, List.set_cons_zero, List.set_cons_succ, i64_w, i32_w]
                    rfl
                  refine pure_ (i := 8) (N := some 75) (v := ?_) (a' := ?_) #[true, true, true, true, true, true, true, false, true, false, false, false, false, false, false, false, false, false] rfl rfl (by kernel_rfl) (fun _ _ _ h => h) (Or.inl ⟨by rfl, ?_⟩) ?_ ?_
                  rotate_left
                  · intro w'
                    go_simp
                    with_reducible rfl
                  rotate_left
                  · simp only [Act.put, List.setIfInBounds_toArray, List.set_cons_zero, List.set_cons_succ, i64_w, i32_w]
                    rfl
                  refine take_ (i := 7) (N := some 74) (v := ?_) (a' := ?_) #[true, true, true, true, true, true, true, true, true, false, false, false, false, false, false, false, false, false] rfl rfl (by kernel_rfl) (fun _ _ _ h => h) (Or.inl ⟨by rfl, ?_⟩) hHeld ?_ ?_
                  rotate_left
                  · intro w' hS
                    have y0_ := (blk_cell (blk_below HBT.out hS) 0).trans (rfl : _ = some (.slice (some ad) l.length c0 : Value))
                    go_simp
                    with_reducible rfl
                  rotate_left
                  · simp only [Act.put, List.setIfInBounds_toArray, List.set_cons_zero, List.set_cons_succ, i64_w, i32_w]
                    rfl
                  refine take_ (i := 9) (N := some 76) (v := ?_) (a' := ?_) #[true, true, true, true, true, true, true, true, true, true, false, false, false, false, false, false, false, false] rfl rfl (by kernel_rfl) (fun _ _ _ h => h) (Or.inl ⟨by rfl, ?_⟩) hHeld ?_ ?_
                  rotate_left
                  · intro w' hS
                    have y0_ := (blk_cell (blk_below HB7.out hS) 1).trans (rfl : _ = some (.slice (some a1) v.f1.length c1 : Value))
                    go_simp
                    with_reducible rfl
                  rotate_left
                  · simp only [Act.put, List.setIfInBounds_toArray, List.set_cons_zero, List.set_cons_succ, i64_w, i32_w]
                    rfl
                  refine pure_ (i := 10) (N := some 77) (v := ?_) (a' := ?_) #[true, true, true, true, true, true, true, true, true, true, true, false, false, false, false, false, false, false] rfl rfl (by kernel_rfl) (fun _ _ _ h => h) (Or.inl ⟨by rfl, ?_⟩) ?_ ?_
                  rotate_left
                  · intro w'
                    go_simp
                    with_reducible rfl
                  rotate_left
                  · simp only [Act.put, List.setIfInBounds_toArray, List.set_cons_zero, List.set_cons_succ, i64_w, i32_w]
                    rfl
                  refine take_ (i := 11) (N := some 78) (v := ?_) (a' := ?_) #[true, true, true, true, true, true, true, true, true, true, true, true, false, false, false, false, false, false] rfl rfl (by kernel_rfl) (fun _ _ _ h => h) (Or.inl ⟨by rfl, ?_⟩) hHeld ?_ ?_
                  rotate_left
                  · intro w' hS
                    have y0_ := pw_cell_below hS X1.out
                    go_simp
                    with_reducible rfl
                  rotate_left
                  · simp only [Act.put, List.setIfInBounds_toArray, List.set_cons_zero, List.set_cons_succ, i64_w, i32_w]
                    rfl
                  refine pure_ (i := 12) (N := some 79) (v := ?_) (a' := ?_) #[true, true, true, true, true, true, true, true, true, true, true, true, true, false, false, false, false, false] rfl rfl (by kernel_rfl) (fun _ _ _ h => h) (Or.inl ⟨by rfl, ?_⟩) ?_ ?_
                  rotate_left
                  · intro w'
                    go_simp
                    with_reducible rfl
                  rotate_left
                  · simp only [Act.put, List.setIfInBounds_toArray, List.set_cons_zero, List.set_cons_succ, i64_w, i32_w]
                    rfl
                  refine pure_ (i := 13) (N := some 80) (v := ?_) (a' := ?_) #[true, true, true, true, true, true, true, true, true, true, true, true, true, true, false, false, false, false] rfl rfl (by kernel_rfl) (fun _ _ _ h => h) (Or.inl ⟨by rfl, ?_⟩) ?_ ?_
                  rotate_left
                  · intro w'
                    go_simp
                    with_reducible rfl
                  rotate_left
                  · simp only [Act.put, List.setIfInBounds_toArray, List.set_cons_zero, List.set_cons_succ, i64_w, i32_w]
                    rfl
                  refine take_ (i := 14) (N := some 81) (v := ?_) (a' := ?_) #[true, true, true, true, true, true, true, true, true, true, true, true, true, true, true, false, false, false] rfl rfl (by kernel_rfl) (fun _ _ _ h => h) (Or.inl ⟨by rfl, ?_⟩) hHeld ?_ ?_
                  rotate_left
                  · intro w' hS
                    have y0_ := pw_cell_below hS X2.out
                    go_simp
                    with_reducible rfl
                  rotate_left
                  · simp only [Act.put, List.setIfInBounds_toArray, List.set_cons_zero, List.set_cons_succ, i64_w, i32_w]
                    rfl
                  refine pure_ (i := 15) (N := some 82) (v := ?_) (a' := ?_) #[true, true, true, true, true, true, true, true, true, true, true, true, true, true, true, true, false, false] rfl rfl (by kernel_rfl) (fun _ _ _ h => h) (Or.inl ⟨by rfl, ?_⟩) ?_ ?_
                  rotate_left
                  · intro w'
                    go_simp
                    with_reducible rfl
                  rotate_left
                  · simp only [Act.put, List.setIfInBounds_toArray, List.set_cons_zero, List.set_cons_succ, i64_w, i32_w]
                    rfl
                  refine pure_ (i := 16) (N := some 83) (v := ?_) (a' := ?_) #[true, true, true, true, true, true, true, true, true, true, true, true, true, true, true, true, true, false] rfl rfl (by kernel_rfl) (fun _ _ _ h => h) (Or.inl ⟨by rfl, ?_⟩) ?_ ?_
                  rotate_left
                  · intro w'
                    go_simp
                    with_reducible rfl
                  rotate_left
                  · simp only [Act.put, List.setIfInBounds_toArray, List.set_cons_zero, List.set_cons_succ, i64_w, i32_w]
                    rfl
                  refine pure_ (i := 17) (N := some 84) (v := ?_) (a' := ?_) #[true, true, true, true, true, true, true, true, true, true, true, true, true, true, true, true, true, true] rfl rfl (by kernel_rfl) (fun _ _ _ h => h) (Or.inl ⟨by rfl, ?_⟩) ?_ ?_
                  rotate_left
                  · intro w'
                    go_simp
                    with_reducible rfl
                  rotate_left
                  · simp only [Act.put, List.setIfInBounds_toArray, List.set_cons_zero, List.set_cons_succ, i64_w, i32_w]
                    rfl
                  refine done_ (by kernel_rfl) ?_

                  replace HB := Aside0.mk (below_drew HB.out)
                  replace HS7 := Aside0.mk (HS7.out.below (below_drew (Below.refl _ _)))
                  go_wp2_with fail
                  go_ret
                  exact ⟨rfl, HB.out, fun _ => HS7.out⟩
                · rw [if_pos ⟨h9, h6⟩] at he5
                  subst he5
                  have h6b : (u.f0 != 6) = true := by simpa using h6
                  clear h6 h9
                  refine start_ (n := 18) (S := fun w' => Below w8.heap.size w8 w') (ds := []) #[false, false, false, false, false, false, false, false, false, false, false, false, false, false, false, false, false, false] (by kernel_rfl) rfl rfl (below_drew (Below.refl _ _)) (fun hHeld => ?_)
                  refine pure_ (i := 0) (N := some 67) (v := ?_) (a' := ?_) #[true, false, false, false, false, false, false, false, false, false, false, false, false, false, false, false, false, false] rfl rfl (by kernel_rfl) (fun _ _ _ h => h) (Or.inl ⟨by rfl, ?_⟩) ?_ ?_
                  rotate_left
                  · intro w'
                    go_simp
                    with_reducible rfl
                  rotate_left
                  · simp only [Act.put, List.setIfInBounds_toArray, List.set_cons_zero, List.set_cons_succ, i64_w, i32_w]
                    rfl
                  refine pure_ (i := 1) (N := some 68) (v := ?_) (a' := ?_) #[true, true, false, false, false, false, false, false, false, false, false, false, false, false, false, false, false, false] rfl rfl (by kernel_rfl) (fun _ _ _ h => h) (Or.inl ⟨by rfl, ?_⟩) ?_ ?_
                  rotate_left
                  · intro w'
                    go_simp
                    with_reducible rfl
                  rotate_left
                  · simp only [Act.put, List.setIfInBounds_toArray, List.set_cons_zero, List.set_cons_succ, i64_w, i32_w]
                    rfl
                  refine pure_ (i := 2) (N := some 69) (v := ?_) (a' := ?_) #[true, true, true, false, false, false, false, false, false, false, false, false, false, false, false, false, false, false] rfl rfl (by kernel_rfl) (fun _ _ _ h => h) (Or.inl ⟨by rfl, ?_⟩) ?_ ?_
                  rotate_left
                  · intro w'
                    go_simp
                    with_reducible rfl
                  rotate_left
                  · simp only [Act.put, List.setIfInBounds_toArray, List.set_cons_zero, List.set_cons_succ, i64_w, i32_w]
                    rfl
                  refine take_ (i := 3) (N := some 70) (v := ?_) (a' := ?_) #[true, true, true, true, false, false, false, false, false, false, false, false, false, false, false, false, false, false] rfl rfl (by kernel_rfl) (fun _ _ _ h => h) (Or.inl ⟨by rfl, ?_⟩) hHeld ?_ ?_
                  rotate_left
                  · intro w' hS
                    have y0_ := (blk_cell (blk_below HB7.out hS) 0).trans (rfl : _ = some (.int .i64 v.f0 : Value))
                    go_simp
                    with_reducible rfl
                  rotate_left
                  · simp only [Act.put, List.setIfInBounds_toArray, List.set_cons_zero, List.set_cons_succ, i64_w, i32_w]
                    rfl
                  refine pure_ (i := 4) (N := some 71) (v := ?_) (a' := ?_) #[true, true, true, true, true, false, false, false, false, false, false, false, false, false, false, false, false, false] rfl rfl (by kernel_rfl) (fun _ _ _ h => h) (Or.inl ⟨by rfl, ?_⟩) ?_ ?_
                  rotate_left
                  · intro w'
                    go_simp
                    with_reducible rfl
                  rotate_left
                  · simp only [Act.put, List.setIfInBounds_toArray, List.set_cons_zero, List.set_cons_succ, i64_w, i32_w]
                    rfl
                  refine pure_ (i := 5) (N := some 72) (v := ?_) (a' := ?_) #[true, true, true, true, true, true, false, false, false, false, false, false, false, false, false, false, false, false] rfl rfl (by kernel_rfl) (fun _ _ _ h => h) (Or.inl ⟨by rfl, ?_⟩) ?_ ?_
                  rotate_left
                  · intro w'
                    go_simp
                    with_reducible rfl
                  rotate_left
                  · simp only [Act.put, List.setIfInBounds_toArray, List.set_cons_zero, List.set_cons_succ, i64_w, i32_w]
                    rfl
                  refine pure_ (i := 6) (N := some 73) (v := ?_) (a' := ?_) #[true, true, true, true, true, true, true, false, false, false, false, false, false, false, false, false, false, false] rfl rfl (by kernel_rfl) (fun _ _ _ h => h) (Or.inl ⟨by rfl, ?_⟩) ?_ ?_
                  rotate_left
                  · intro w'
                    go_simp
                    with_reducible rfl
                  rotate_left
                  · simp only [Act.put, List.setIfInBounds_toArray, List.set_cons_zero, List.set_cons_succ, i64_w, i32_w]
                    rfl
                  refine pure_ (i := 8) (N := some 75) (v := ?_) (a' := ?_) #[true, true, true, true, true, true, true, false, true, false, false, false, false, false, false, false, false, false] rfl rfl (by kernel_rfl) (fun _ _ _ h => h) (Or.inl ⟨by rfl, ?_⟩) ?_ ?_
                  rotate_left
                  · intro w'
                    go_simp
                    with_reducible rfl
                  rotate_left
                  · simp only [Act.put, List.setIfInBounds_toArray, List.set_cons_zero, List.set_cons_succ, i64_w, i32_w]
                    rfl
                  refine take_ (i := 7) (N := some 74) (v := ?_) (a' := ?_) #[true, true, true, true, true, true, true, true, true, false, false, false, false, false, false, false, false, false] rfl rfl (by kernel_rfl) (fun _ _ _ h => h) (Or.inl ⟨by rfl, ?_⟩) hHeld ?_ ?_
                  rotate_left
                  · intro w' hS
                    have y0_ := (blk_cell (blk_below HBT.out hS) 0).trans (rfl : _ = some (.slice (some ad) l.length c0 : Value))
                    go_simp
                    with_reducible rfl
                  rotate_left
                  · simp only [Act.put, List.setIfInBounds_toArray, List.set_cons_zero, List.set_cons_succ, i64_w, i32_w]
                    rfl
                  refine take_ (i := 9) (N := some 76) (v := ?_) (a' := ?_) #[true, true, true, true, true, true, true, true, true, true, false, false, false, false, false, false, false, false] rfl rfl (by kernel_rfl) (fun _ _ _ h => h) (Or.inl ⟨by rfl, ?_⟩) hHeld ?_ ?_
                  rotate_left
                  · intro w' hS
                    have y0_ := (blk_cell (blk_below HB7.out hS) 1).trans (rfl : _ = some (.slice (some a1) v.f1.length c1 : Value))
                    go_simp
                    with_reducible rfl
                  rotate_left
                  · simp only [Act.put, List.setIfInBounds_toArray, List.set_cons_zero, List.set_cons_succ, i64_w, i32_w]
                    rfl
                  refine pure_ (i := 10) (N := some 77) (v := ?_) (a' := ?_) #[true, true, true, true, true, true, true, true, true, true, true, false, false, false, false, false, false, false] rfl rfl (by kernel_rfl) (fun _ _ _ h => h) (Or.inl ⟨by rfl, ?_⟩) ?_ ?_
                  rotate_left
                  · intro w'
                    go_simp
                    with_reducible rfl
                  rotate_left
                  · simp only [Act.put, List.setIfInBounds_toArray, List.set_cons_zero, List.set_cons_succ, i64_w, i32_w]
                    rfl
                  refine take_ (i := 11) (N := some 78) (v := ?_) (a' := ?_) #[true, true, true, true, true, true, true, true, true, true, true, true, false, false, false, false, false, false] rfl rfl (by kernel_rfl) (fun _ _ _ h => h) (Or.inl ⟨by rfl, ?_⟩) hHeld ?_ ?_
                  rotate_left
                  · intro w' hS
                    have y0_ := pw_cell_below hS X1.out
                    go_simp
                    with_reducible rfl
                  rotate_left
                  · simp only [Act.put, List.setIfInBounds_toArray, List.set_cons_zero, List.set_cons_succ, i64_w, i32_w]
                    rfl
                  refine pure_ (i := 12) (N := some 79) (v := ?_) (a' := ?_) #[true, true, true, true, true, true, true, true, true, true, true, true, true, false, false, false, false, false] rfl rfl (by kernel_rfl) (fun _ _ _ h => h) (Or.inl ⟨by rfl, ?_⟩) ?_ ?_
                  rotate_left
                  · intro w'
                    go_simp
                    with_reducible rfl
                  rotate_left
                  · simp only [Act.put, List.setIfInBounds_toArray, List.set_cons_zero, List.set_cons_succ, i64_w, i32_w]
                    rfl
                  refine pure_ (i := 13) (N := some 80) (v := ?_) (a' := ?_) #[true, true, true, true, true, true, true, true, true, true, true, true, true, true, false, false, false, false] rfl rfl (by kernel_rfl) (fun _ _ _ h => h) (Or.inl ⟨by rfl, ?_⟩) ?_ ?_
                  rotate_left
                  · intro w'
                    go_simp
                    with_reducible rfl
                  rotate_left
                  · simp only [Act.put, List.setIfInBounds_toArray, List.set_cons_zero, List.set_cons_succ, i64_w, i32_w]
                    rfl
                  refine take_ (i := 14) (N := some 81) (v := ?_) (a' := ?_) #[true, true, true, true, true, true, true, true, true, true, true, true, true, true, true, false, false, false] rfl rfl (by kernel_rfl) (fun _ _ _ h => h) (Or.inl ⟨by rfl, ?_⟩) hHeld ?_ ?_
                  rotate_left
                  · intro w' hS
                    have y0_ := pw_cell_below hS X2.out
                    go_simp
                    with_reducible rfl
                  rotate_left
                  · simp only [Act.put, List.setIfInBounds_toArray, List.set_cons_zero, List.set_cons_succ, i64_w, i32_w]
                    rfl
                  refine pure_ (i := 15) (N := some 82) (v := ?_) (a' := ?_) #[true, true, true, true, true, true, true, true, true, true, true, true, true, true, true, true, false, false] rfl rfl (by kernel_rfl) (fun _ _ _ h => h) (Or.inl ⟨by rfl, ?_⟩) ?_ ?_
                  rotate_left
                  · intro w'
                    go_simp
                    with_reducible rfl
                  rotate_left
                  · simp only [Act.put, List.setIfInBounds_toArray, List.set_cons_zero, List.set_cons_succ, i64_w, i32_w]
                    rfl
                  refine pure_ (i := 16) (N := some 83) (v := ?_) (a' := ?_) #[true, true, true, true, true, true, true, true, true, true, true, true, true, true, true, true, true, false] rfl rfl (by kernel_rfl) (fun _ _ _ h => h) (Or.inl ⟨by rfl, ?_⟩) ?_ ?_
                  rotate_left
                  · intro w'
                    go_simp
                    with_reducible rfl
                  rotate_left
                  · simp only [Act.put, List.setIfInBounds_toArray, List.set_cons_zero, List.set_cons_succ, i64_w, i32_w]
                    rfl
                  refine pure_ (i := 17) (N := some 84) (v := ?_) (a' := ?_) #[true, true, true, true, true, true, true, true, true, true, true, true, true, true, true, true, true, true] rfl rfl (by kernel_rfl) (fun _ _ _ h => h) (Or.inl ⟨by rfl, ?_⟩) ?_ ?_
                  rotate_left
                  · intro w'
                    go_simp
                    with_reducible rfl
                  rotate_left
                  · simp only [Act.put, List.setIfInBounds_toArray, List.set_cons_zero, List.set_cons_succ, i64_w, i32_w]
                    rfl
                  refine done_ (by kernel_rfl) ?_

                  replace HB := Aside0.mk (below_drew HB.out)
                  go_wp2_with fail
                  go_ret
                  exact ⟨rfl, HB.out, fun h => absurd h (by decide)⟩
              · rw [if_neg (fun h => h9 h.1)] at he5
                have h9b : (v.f0 == 9) = false := by simpa using h9
                clear h9
                subst he5
                refine start_ (n := 18) (S := fun w' => Below w8.heap.size w8 w') (ds := []) #[false, false, false, false, false, false, false, false, false, false, false, false, false, false, false, false, false, false] (by kernel_rfl) rfl rfl (below_drew (Below.refl _ _)) (fun hHeld => ?_)
                refine pure_ (i := 0) (N := some 67) (v := ?_) (a' := ?_) #[true, false, false, false, false, false, false, false, false, false, false, false, false, false, false, false, false, false] rfl rfl (by kernel_rfl) (fun _ _ _ h => h) (Or.inl ⟨by rfl, ?_⟩) ?_ ?_
                rotate_left
                · intro w'
                  go_simp
                  with_reducible rfl
                rotate_left
                · simp only [Act.put, List.setIfInBounds_toArray, List.set_cons_zero, List.set_cons_succ, i64_w, i32_w]
                  rfl
                refine pure_ (i := 1) (N := some 68) (v := ?_) (a' := ?_) #[true, true, false, false, false, false, false, false, false, false, false, false, false, false, false, false, false, false] rfl rfl (by kernel_rfl) (fun _ _ _ h => h) (Or.inl ⟨by rfl, ?_⟩) ?_ ?_
                rotate_left
                · intro w'
                  go_simp
                  with_reducible rfl
                rotate_left
                · simp only [Act.put, List.setIfInBounds_toArray, List.set_cons_zero, List.set_cons_succ, i64_w, i32_w]
                  rfl
                refine pure_ (i := 2) (N := some 69) (v := ?_) (a' := ?_) #[true, true, true, false, false, false, false, false, false, false, false, false, false, false, false, false, false, false] rfl rfl (by kernel_rfl) (fun _ _ _ h => h) (Or.inl ⟨by rfl, ?_⟩) ?_ ?_
                rotate_left
                · intro w'
                  go_simp
                  with_reducible rfl
                rotate_left
                · simp only [Act.put, List.setIfInBounds_toArray, List.set_cons_zero, List.set_cons_succ, i64_w, i32_w]
                  rfl
                refine take_ (i := 3) (N := some 70) (v := ?_) (a' := ?_) #[true, true, true, true, false, false, false, false, false, false, false, false, false, false, false, false, false, false] rfl rfl (by kernel_rfl) (fun _ _ _ h => h) (Or.inl ⟨by rfl, ?_⟩) hHeld ?_ ?_
                rotate_left
                · intro w' hS
                  have y0_ := (blk_cell (blk_below HB7.out hS) 0).trans (rfl : _ = some (.int .i64 v.f0 : Value))
                  go_simp
                  with_reducible rfl
                rotate_left
                · simp only [Act.put, List.setIfInBounds_toArray, List.set_cons_zero, List.set_cons_succ, i64_w, i32_w]
                  rfl
                refine pure_ (i := 4) (N := some 71) (v := ?_) (a' := ?_) #[true, true, true, true, true, false, false, false, false, false, false, false, false, false, false, false, false, false] rfl rfl (by kernel_rfl) (fun _ _ _ h => h) (Or.inl ⟨by rfl, ?_⟩) ?_ ?_
                rotate_left
                · intro w'
                  go_simp
                  with_reducible rfl
                rotate_left
                · simp only [Act.put, List.setIfInBounds_toArray, List.set_cons_zero, List.set_cons_succ, i64_w, i32_w]
                  rfl
                refine pure_ (i := 5) (N := some 72) (v := ?_) (a' := ?_) #[true, true, true, true, true, true, false, false, false, false, false, false, false, false, false, false, false, false] rfl rfl (by kernel_rfl) (fun _ _ _ h => h) (Or.inl ⟨by rfl, ?_⟩) ?_ ?_
                rotate_left
                · intro w'
                  go_simp
                  with_reducible rfl
                rotate_left
                · simp only [Act.put, List.setIfInBounds_toArray, List.set_cons_zero, List.set_cons_succ, i64_w, i32_w]
                  rfl
                refine pure_ (i := 6) (N := some 73) (v := undef) (a' := ?_) #[true, true, true, true, true, true, true, false, false, false, false, false, false, false, false, false, false, false] rfl rfl (by kernel_rfl) (fun _ _ _ h => h) (Or.inr ⟨by rfl, rfl⟩) ?_ ?_
                rotate_left
                · simp only [Act.put, List.setIfInBounds_toArray, List.set_cons_zero, List.set_cons_succ, i64_w, i32_w]
                  rfl
                refine pure_ (i := 7) (N := some 74) (v := undef) (a' := ?_) #[true, true, true, true, true, true, true, true, false, false, false, false, false, false, false, false, false, false] rfl rfl (by kernel_rfl) (fun _ _ _ h => h) (Or.inr ⟨by rfl, rfl⟩) ?_ ?_
                rotate_left
                · simp only [Act.put, List.setIfInBounds_toArray, List.set_cons_zero, List.set_cons_succ, i64_w, i32_w]
                  rfl
                refine pure_ (i := 8) (N := some 75) (v := undef) (a' := ?_) #[true, true, true, true, true, true, true, true, true, false, false, false, false, false, false, false, false, false] rfl rfl (by kernel_rfl) (fun _ _ _ h => h) (Or.inr ⟨by rfl, rfl⟩) ?_ ?_
                rotate_left
                · simp only [Act.put, List.setIfInBounds_toArray, List.set_cons_zero, List.set_cons_succ, i64_w, i32_w]
                  rfl
                refine pure_ (i := 9) (N := some 76) (v := undef) (a' := ?_) #[true, true, true, true, true, true, true, true, true, true, false, false, false, false, false, false, false, false] rfl rfl (by kernel_rfl) (fun _ _ _ h => h) (Or.inr ⟨by rfl, rfl⟩) ?_ ?_
                rotate_left
                · simp only [Act.put, List.setIfInBounds_toArray, List.set_cons_zero, List.set_cons_succ, i64_w, i32_w]
                  rfl
                refine pure_ (i := 10) (N := some 77) (v := undef) (a' := ?_) #[true, true, true, true, true, true, true, true, true, true, true, false, false, false, false, false, false, false] rfl rfl (by kernel_rfl) (fun _ _ _ h => h) (Or.inr ⟨by rfl, rfl⟩) ?_ ?_
                rotate_left
                · simp only [Act.put, List.setIfInBounds_toArray, List.set_cons_zero, List.set_cons_succ, i64_w, i32_w]
                  rfl
                refine pure_ (i := 11) (N := some 78) (v := undef) (a' := ?_) #[true, true, true, true, true, true, true, true, true, true, true, true, false, false, false, false, false, false] rfl rfl (by kernel_rfl) (fun _ _ _ h => h) (Or.inr ⟨by rfl, rfl⟩) ?_ ?_
                rotate_left
                · simp only [Act.put, List.setIfInBounds_toArray, List.set_cons_zero, List.set_cons_succ, i64_w, i32_w]
                  rfl
                refine pure_ (i := 12) (N := some 79) (v := undef) (a' := ?_) #[true, true, true, true, true, true, true, true, true, true, true, true, true, false, false, false, false, false] rfl rfl (by kernel_rfl) (fun _ _ _ h => h) (Or.inr ⟨by rfl, rfl⟩) ?_ ?_
                rotate_left
                · simp only [Act.put, List.setIfInBounds_toArray, List.set_cons_zero, List.set_cons_succ, i64_w, i32_w]
                  rfl
                refine pure_ (i := 13) (N := some 80) (v := undef) (a' := ?_) #[true, true, true, true, true, true, true, true, true, true, true, true, true, true, false, false, false, false] rfl rfl (by kernel_rfl) (fun _ _ _ h => h) (Or.inr ⟨by rfl, rfl⟩) ?_ ?_
                rotate_left
                · simp only [Act.put, List.setIfInBounds_toArray, List.set_cons_zero, List.set_cons_succ, i64_w, i32_w]
                  rfl
                refine pure_ (i := 14) (N := some 81) (v := undef) (a' := ?_) #[true, true, true, true, true, true, true, true, true, true, true, true, true, true, true, false, false, false] rfl rfl (by kernel_rfl) (fun _ _ _ h => h) (Or.inr ⟨by rfl, rfl⟩) ?_ ?_
                rotate_left
                · simp only [Act.put, List.setIfInBounds_toArray, List.set_cons_zero, List.set_cons_succ, i64_w, i32_w]
                  rfl
                refine pure_ (i := 15) (N := some 82) (v := undef) (a' := ?_) #[true, true, true, true, true, true, true, true, true, true, true, true, true, true, true, true, false, false] rfl rfl (by kernel_rfl) (fun _ _ _ h => h) (Or.inr ⟨by rfl, rfl⟩) ?_ ?_
                rotate_left
                · simp only [Act.put, List.setIfInBounds_toArray, List.set_cons_zero, List.set_cons_succ, i64_w, i32_w]
                  rfl
                refine pure_ (i := 16) (N := some 83) (v := ?_) (a' := ?_) #[true, true, true, true, true, true, true, true, true, true, true, true, true, true, true, true, true, false] rfl rfl (by kernel_rfl) (fun _ _ _ h => h) (Or.inl ⟨by rfl, ?_⟩) ?_ ?_
                rotate_left
                · intro w'
                  go_simp
                  with_reducible rfl
                rotate_left
                · simp only [Act.put, List.setIfInBounds_toArray, List.set_cons_zero, List.set_cons_succ, i64_w, i32_w]
                  rfl
                refine pure_ (i := 17) (N := some 84) (v := ?_) (a' := ?_) #[true, true, true, true, true, true, true, true, true, true, true, true, true, true, true, true, true, true] rfl rfl (by kernel_rfl) (fun _ _ _ h => h) (Or.inl ⟨by rfl, ?_⟩) ?_ ?_
                rotate_left
                · intro w'
                  go_simp
                  with_reducible rfl
                rotate_left
                · simp only [Act.put, List.setIfInBounds_toArray, List.set_cons_zero, List.set_cons_succ, i64_w, i32_w]
                  rfl
                refine done_ (by kernel_rfl) ?_

                replace HB := Aside0.mk (below_drew HB.out)
                replace HS7 := Aside0.mk (HS7.out.below (below_drew (Below.refl _ _)))
                go_wp2_with fail
                go_ret
                exact ⟨rfl, HB.out, fun _ => HS7.out⟩
end Go.Proofs.Yteanncfmaomhaaa.Ex
