/- (c11) state.put. -/
import Derived.Test.YtmnglonjekegcaaVwA
namespace Go.Proofs.Ytmnglonjekegcaa.Vw
open Go Go.RowKit Go.Maps Go.Proofs.Ytmnglonjekegcaa.Mk Go.Proofs.Ytmnglonjekegcaa.Rp Go.Proofs.YtmnglonjekegcaaW.PrintWords Go.Proofs.YtmnglonjekegcaaW.PrintLast Go.Proofs.YtmnglonjekegcaaW.PrintMore Go.Proofs.Ytmnglonjekegcaa.Rw Go.Proofs.Ytmnglonjekegcaa.Ow Go.Proofs.Ytmnglonjekegcaa.Mono
set_option linter.unusedVariables false
set_option linter.unusedSimpArgs false
set_option maxRecDepth 100000
theorem eg_pv (o : Option Nat) (w : World) (x y : Operand) : (eqGuard .eql 58 x y (pv o) (.pointer none)).run Try.prog w = .ok () w := by cases o <;> rfl
theorem eq_pv (o : Option Nat) (w : World) : (binOp .eql 58 (pv o) (.pointer none)).run Try.prog w = .ok (.bool o.isNone) w := by cases o <;> rfl
set_option maxHeartbeats 4000000 in
set_option maxRecDepth 100000 in
theorem put_ok (base bs : Nat) (x : S47) (A9 A10 : Option Addr) (n9 c9 n10 c10 : Nat) (w0 w : World) (M : List LE) (T : List TE) (hv : VS w base bs M T) (hB : Below base w0 w) (hbase : base ≤ w.heap.size) (hwf : (Lit.int .i64 x.f4).wf = true) (hM : M.length < 1000000) (hr : ∀ e ∈ M, e.l.f1.length ≤ 1000000 ∧ e.l.f2.length ≤ 1000000) :
    Calls Try.prog 33 #[.pointer (some ⟨bs, 0, none⟩), .agg #[.int .i64 x.f0, .int .i64 x.f1, .int .i64 x.f2, .int .i64 x.f3, .int .i64 x.f4, .int .i64 x.f5.f0, .int .i64 x.f5.f1, .int .i64 x.f5.f2, .bool x.f6, .slice A9 n9 c9, .slice A10 n10 c10]] w fun e w' => e = .returned (.tuple #[]) ∧ Below base w0 w' ∧ base ≤ w'.heap.size ∧ KeepX isL w w' ∧ ∃ M', VS w' base bs M' T ∧ M'.map (·.l) = putL (M.map (·.l)) x := by
  obtain ⟨⟨bl, bt, hst, hL, hT, hne⟩, hbb⟩ := hv
  have HWF := Aside0.mk hwf
  have HBS := Aside0.mk hbase
  have HBB := Aside0.mk hbb
  have HB := Aside0.mk hB
  have HLL0 := Aside0.mk hM
  have HR := Aside0.mk hr
  have HNE := Aside0.mk hne
  have HST := Aside0.mk hst
  have HL := Aside0.mk hL
  have HT := Aside0.mk hT
  have HK := Aside0.mk (KeepX.refl isL w)
  clear hwf hbase hbb hB hM hr hne hst hL hT
  obtain ⟨o, ho⟩ := lk_nat (L := M.map fun e => (e.l.f0, (e.g : Int))) (fun p hp => by obtain ⟨e, _, rfl⟩ := List.mem_map.1 hp; exact Int.natCast_nonneg _) x.f4
  have HLK := Aside0.mk ho
  clear ho
  have heq : ∀ w, (binOp .eql 58 (pv o) (.pointer none)).run Try.prog w = .ok (.bool o.isNone) w := fun w => eq_pv o w
  have hgq : ∀ w x y, (eqGuard .eql 58 x y (pv o) (.pointer none)).run Try.prog w = .ok () w := fun w x y => eg_pv o w x y
  obtain ⟨vp, HVP⟩ : ∃ vp, Aside0 (pv o = vp) := ⟨_, ⟨rfl⟩⟩
  obtain ⟨bq, HBQ⟩ : ∃ bq, Aside0 (o.isNone = bq) := ⟨_, ⟨rfl⟩⟩
  simp only [HVP.out, HBQ.out] at heq hgq
  go_enter Try.func33, Try.ntmps33
  go_upto_region 1 with fail
  have HX := Aside0.mk (heap_alloc_new w (.cells #[.int .i64 x.f0, .int .i64 x.f1, .int .i64 x.f2, .int .i64 x.f3, .int .i64 x.f4, .int .i64 x.f5.f0, .int .i64 x.f5.f1, .int .i64 x.f5.f2, .bool x.f6, .slice A9 n9 c9, .slice A10 n10 c10] 47))
  have hb_ := below_alloc (Below.refl w.heap.size w) (.cells #[.int .i64 x.f0, .int .i64 x.f1, .int .i64 x.f2, .int .i64 x.f3, .int .i64 x.f4, .int .i64 x.f5.f0, .int .i64 x.f5.f1, .int .i64 x.f5.f2, .bool x.f6, .slice A9 n9 c9, .slice A10 n10 c10] 47)
  have hs_ : (w.alloc (.cells #[.int .i64 x.f0, .int .i64 x.f1, .int .i64 x.f2, .int .i64 x.f3, .int .i64 x.f4, .int .i64 x.f5.f0, .int .i64 x.f5.f1, .int .i64 x.f5.f2, .bool x.f6, .slice A9 n9 c9, .slice A10 n10 c10] 47)).heap.size = w.heap.size + 1 := by simp
  generalize w.alloc (.cells #[.int .i64 x.f0, .int .i64 x.f1, .int .i64 x.f2, .int .i64 x.f3, .int .i64 x.f4, .int .i64 x.f5.f0, .int .i64 x.f5.f1, .int .i64 x.f5.f2, .bool x.f6, .slice A9 n9 c9, .slice A10 n10 c10] 47) = w1 at HX hb_ hs_ ⊢
  replace HST := Aside0.mk (blk_below HST.out hb_)
  replace HL := Aside0.mk (HL.out.below hb_)
  replace HT := Aside0.mk (HT.out.below hb_)
  replace HB := Aside0.mk (below_on HB.out HBS.out hb_)
  replace HBS := Aside0.mk (Nat.le_trans HBS.out hb_.size)
  replace HK := Aside0.mk (HK.out.below hb_)
  clear hb_
  clear hs_
  obtain ⟨gx, HGX⟩ : ∃ g, Aside0 (w.heap.size = g) := ⟨_, ⟨rfl⟩⟩
  rw [HGX.out] at HX ⊢
  refine start_ (n := 8) (S := fun w' => Below w1.heap.size w1 w') (ds := []) #[false, false, false, false, false, false, false, false] (by kernel_rfl) rfl rfl (below_drew (Below.refl _ _)) (fun hHeld => ?_)
  refine pure_ (i := 0) (N := some 5) (v := ?_) (a' := ?_) #[true, false, false, false, false, false, false, false] rfl rfl (by kernel_rfl) (fun _ _ _ h => h) (Or.inl ⟨by rfl, ?_⟩) ?_ ?_
  rotate_left
  · intro w'
    go_simp
    with_reducible rfl
  rotate_left
  · simp only [Act.put, List.setIfInBounds_toArray, List.set_cons_zero, List.set_cons_succ, i64_w, i32_w]
    rfl
  refine pure_ (i := 1) (N := some 6) (v := ?_) (a' := ?_) #[true, true, false, false, false, false, false, false] rfl rfl (by kernel_rfl) (fun _ _ _ h => h) (Or.inl ⟨by rfl, ?_⟩) ?_ ?_
  rotate_left
  · intro w'
    go_simp
    with_reducible rfl
  rotate_left
  · simp only [Act.put, List.setIfInBounds_toArray, List.set_cons_zero, List.set_cons_succ, i64_w, i32_w]
    rfl
  refine pure_ (i := 2) (N := some 7) (v := ?_) (a' := ?_) #[true, true, true, false, false, false, false, false] rfl rfl (by kernel_rfl) (fun _ _ _ h => h) (Or.inl ⟨by rfl, ?_⟩) ?_ ?_
  rotate_left
  · intro w'
    go_simp
    with_reducible rfl
  rotate_left
  · simp only [Act.put, List.setIfInBounds_toArray, List.set_cons_zero, List.set_cons_succ, i64_w, i32_w]
    rfl
  refine pure_ (i := 4) (N := some 9) (v := ?_) (a' := ?_) #[true, true, true, false, true, false, false, false] rfl rfl (by kernel_rfl) (fun _ _ _ h => h) (Or.inl ⟨by rfl, ?_⟩) ?_ ?_
  rotate_left
  · intro w'
    go_simp
    with_reducible rfl
  rotate_left
  · simp only [Act.put, List.setIfInBounds_toArray, List.set_cons_zero, List.set_cons_succ, i64_w, i32_w]
    rfl
  refine take_ (i := 3) (N := some 8) (v := ?_) (a' := ?_) #[true, true, true, true, true, false, false, false] rfl rfl (by kernel_rfl) (fun _ _ _ h => h) (Or.inl ⟨by rfl, ?_⟩) hHeld ?_ ?_
  rotate_left
  · intro w' hS
    have c_ := (blk_cell (blk_below HST.out hS) 0).trans (rfl : _ = some (.map (some bl) : Value))
    go_simp
    with_reducible rfl
  rotate_left
  · simp only [Act.put, List.setIfInBounds_toArray, List.set_cons_zero, List.set_cons_succ, i64_w, i32_w]
    rfl
  refine take_ (i := 5) (N := some 10) (v := ?_) (a' := ?_) #[true, true, true, true, true, true, false, false] rfl rfl (by kernel_rfl) (fun _ _ _ h => h) (Or.inl ⟨by rfl, ?_⟩) hHeld ?_ ?_
  rotate_left
  · intro w' hS
    have b4_ := (blk_cell (blk_below HX.out hS) 4).trans (rfl : _ = some (.int .i64 x.f4 : Value))
    go_simp
    with_reducible rfl
  rotate_left
  · simp only [Act.put, List.setIfInBounds_toArray, List.set_cons_zero, List.set_cons_succ, i64_w, i32_w]
    rfl
  refine take_ (i := 6) (N := some 11) (v := ?_) (a' := ?_) #[true, true, true, true, true, true, true, false] rfl rfl (by kernel_rfl) (fun _ _ _ h => h) (Or.inl ⟨by rfl, ?_⟩) hHeld ?_ ?_
  rotate_left
  · intro w' hS
    have l_ := MapP.atL (HL.out.mp.move (hS.block _ HL.out.mp.lt)) HWF.out HLK.out
    rw [HVP.out] at l_
    go_simp
    with_reducible rfl
  rotate_left
  · simp only [Act.put, List.setIfInBounds_toArray, List.set_cons_zero, List.set_cons_succ, i64_w, i32_w]
    rfl
  refine pure_ (i := 7) (N := some 4) (v := ?_) (a' := ?_) #[true, true, true, true, true, true, true, true] rfl rfl (by kernel_rfl) (fun _ _ _ h => h) (Or.inl ⟨by rfl, ?_⟩) ?_ ?_
  rotate_left
  · intro w'
    go_simp
    with_reducible rfl
  rotate_left
  · simp only [Act.put, List.setIfInBounds_toArray, List.set_cons_zero, List.set_cons_succ, i64_w, i32_w]
    rfl
  refine done_ (by kernel_rfl) ?_

  replace HX := Aside0.mk (blk_below HX.out hHeld)
  replace HST := Aside0.mk (blk_below HST.out hHeld)
  replace HL := Aside0.mk (HL.out.below hHeld)
  replace HT := Aside0.mk (HT.out.below hHeld)
  replace HB := Aside0.mk (below_on HB.out HBS.out hHeld)
  replace HBS := Aside0.mk (Nat.le_trans HBS.out hHeld.size)
  replace HK := Aside0.mk (HK.out.below hHeld)
  clear hHeld
  generalize w1.drew = w2 at HX HST HL HT HB HBS HK ⊢
  go_upto_if 13 with fail
  clear heq hgq
  go_cut [4] (fun v4 wc => ∃ (M2 : List LE) (i : Nat) (e : LE), v4 = .pointer (some ⟨e.g, 0, none⟩) ∧ M2.map (·.l) = ensL (M.map (·.l)) x.f4 ∧ M2[i]? = some e ∧ e.l.f0 = x.f4 ∧ LogsI wc base bl M2 ∧ TasksI wc base bt T ∧ wc.heap[bs]? = some (.cells #[.map (some bl), .map (some bt)] 62 (0, 0)) ∧ wc.heap[gx]? = some (.cells #[.int .i64 x.f0, .int .i64 x.f1, .int .i64 x.f2, .int .i64 x.f3, .int .i64 x.f4, .int .i64 x.f5.f0, .int .i64 x.f5.f1, .int .i64 x.f5.f2, .bool x.f6, .slice A9 n9 c9, .slice A10 n10 c10] 47 (0, 0)) ∧ Below base w0 wc ∧ base ≤ wc.heap.size ∧ e.l.f1.length ≤ 1000000 ∧ e.l.f2.length ≤ 1000000 ∧ KeepX isL w wc)
  case first =>
    cases o with
    | some g =>
      obtain ⟨i, e, hi, hk, hg⟩ := lk_at HLK.out
      obtain rfl : false = bq := HBQ.out
      have eg : g = e.g := by have h2 : (g : Int) = (e.g : Int) := hg; omega
      subst eg
      go_wp2_with fail
      go_meet
      case rel =>
        have hrr := HR.out e (List.mem_of_getElem? hi)
        exact ⟨M, i, e, HVP.out.symm, (ens_old hi hk).symm, hi, hk, HL.out, HT.out, HST.out, HX.out, HB.out, HBS.out, hrr.1, hrr.2, HK.out⟩
    | none =>
      obtain rfl : true = bq := HBQ.out
      obtain rfl : .pointer none = vp := HVP.out
      have b4_ := (blk_cell HX.out 4).trans (rfl : _ = some (.int .i64 x.f4 : Value))
      go_upto_region 4 with fail
      have HXn := Aside0.mk (heap_alloc_new w2 (.cells #[.int .i64 x.f4, .slice none 0 0, .slice none 0 0] 36))
      have hb_ := below_alloc (Below.refl w2.heap.size w2) (.cells #[.int .i64 x.f4, .slice none 0 0, .slice none 0 0] 36)
      have hs_ : (w2.alloc (.cells #[.int .i64 x.f4, .slice none 0 0, .slice none 0 0] 36)).heap.size = w2.heap.size + 1 := by simp
      generalize w2.alloc (.cells #[.int .i64 x.f4, .slice none 0 0, .slice none 0 0] 36) = wb at HXn hb_ hs_ ⊢
      replace HST := Aside0.mk (blk_below HST.out hb_)
      replace HX := Aside0.mk (blk_below HX.out hb_)
      replace HL := Aside0.mk (HL.out.below hb_)
      replace HT := Aside0.mk (HT.out.below hb_)
      replace HB := Aside0.mk (below_on HB.out HBS.out hb_)
      replace HK := Aside0.mk (HK.out.below hb_)
      clear hb_
      clear hs_ b4_
      obtain ⟨g, HG⟩ : ∃ g, Aside0 (w2.heap.size = g) := ⟨_, ⟨rfl⟩⟩
      rw [HG.out] at HXn ⊢
      have HGB : Aside0 (base ≤ g) := ⟨by rw [← HG.out]; exact HBS.out⟩
      replace HBS := Aside0.mk (Nat.le_trans HBS.out (by have := blk_lt HXn.out; rw [HG.out]; omega : w2.heap.size ≤ wb.heap.size))
      have HNO : Aside0 (lk (M.map fun e => (e.l.f0, (e.g : Int))) x.f4 = none) := ⟨HLK.out⟩
      have HNI := Aside0.mk (lk_no HNO.out)
      have HLL : Aside0 ((M.map fun e => (e.l.f0, (e.g : Int))).length < 1000000) := ⟨by rw [List.length_map]; exact HLL0.out⟩
      refine start_ (n := 8) (S := fun w' => Below wb.heap.size wb w') (ds := [7]) #[false, false, false, false, false, false, false, false] (by kernel_rfl) rfl rfl (below_drew (Below.refl _ _)) (fun hHeld => ?_)
      refine pure_ (i := 0) (N := some 18) (v := ?_) (a' := ?_) #[true, false, false, false, false, false, false, false] rfl rfl (by kernel_rfl) (fun _ _ _ h => h) (Or.inl ⟨by rfl, ?_⟩) ?_ ?_
      rotate_left
      · intro w'
        go_simp
        with_reducible rfl
      rotate_left
      · simp only [Act.put, List.setIfInBounds_toArray, List.set_cons_zero, List.set_cons_succ, i64_w, i32_w]
        rfl
      refine pure_ (i := 1) (N := some 19) (v := ?_) (a' := ?_) #[true, true, false, false, false, false, false, false] rfl rfl (by kernel_rfl) (fun _ _ _ h => h) (Or.inl ⟨by rfl, ?_⟩) ?_ ?_
      rotate_left
      · intro w'
        go_simp
        with_reducible rfl
      rotate_left
      · simp only [Act.put, List.setIfInBounds_toArray, List.set_cons_zero, List.set_cons_succ, i64_w, i32_w]
        rfl
      refine pure_ (i := 2) (N := some 20) (v := ?_) (a' := ?_) #[true, true, true, false, false, false, false, false] rfl rfl (by kernel_rfl) (fun _ _ _ h => h) (Or.inl ⟨by rfl, ?_⟩) ?_ ?_
      rotate_left
      · intro w'
        go_simp
        with_reducible rfl
      rotate_left
      · simp only [Act.put, List.setIfInBounds_toArray, List.set_cons_zero, List.set_cons_succ, i64_w, i32_w]
        rfl
      refine pure_ (i := 4) (N := some 22) (v := ?_) (a' := ?_) #[true, true, true, false, true, false, false, false] rfl rfl (by kernel_rfl) (fun _ _ _ h => h) (Or.inl ⟨by rfl, ?_⟩) ?_ ?_
      rotate_left
      · intro w'
        go_simp
        with_reducible rfl
      rotate_left
      · simp only [Act.put, List.setIfInBounds_toArray, List.set_cons_zero, List.set_cons_succ, i64_w, i32_w]
        rfl
      refine pure_ (i := 6) (N := some 24) (v := ?_) (a' := ?_) #[true, true, true, false, true, false, true, false] rfl rfl (by kernel_rfl) (fun _ _ _ h => h) (Or.inl ⟨by rfl, ?_⟩) ?_ ?_
      rotate_left
      · intro w'
        go_simp
        with_reducible rfl
      rotate_left
      · simp only [Act.put, List.setIfInBounds_toArray, List.set_cons_zero, List.set_cons_succ, i64_w, i32_w]
        rfl
      refine take_ (i := 3) (N := some 21) (v := ?_) (a' := ?_) #[true, true, true, true, true, false, true, false] rfl rfl (by kernel_rfl) (fun _ _ _ h => h) (Or.inl ⟨by rfl, ?_⟩) hHeld ?_ ?_
      rotate_left
      · intro w' hS
        have c_ := (blk_cell (blk_below HST.out hS) 0).trans (rfl : _ = some (.map (some bl) : Value))
        go_simp
        with_reducible rfl
      rotate_left
      · simp only [Act.put, List.setIfInBounds_toArray, List.set_cons_zero, List.set_cons_succ, i64_w, i32_w]
        rfl
      refine take_ (i := 5) (N := some 23) (v := ?_) (a' := ?_) #[true, true, true, true, true, true, true, false] rfl rfl (by kernel_rfl) (fun _ _ _ h => h) (Or.inl ⟨by rfl, ?_⟩) hHeld ?_ ?_
      rotate_left
      · intro w' hS
        have b4_ := (blk_cell (blk_below HX.out hS) 4).trans (rfl : _ = some (.int .i64 x.f4 : Value))
        go_simp
        with_reducible rfl
      rotate_left
      · simp only [Act.put, List.setIfInBounds_toArray, List.set_cons_zero, List.set_cons_succ, i64_w, i32_w]
        rfl
      refine last_ (i := 7) (N := none) #[true, true, true, true, true, true, true, true] rfl rfl (by kernel_rfl) (by simp) (fun K hK => ?_)
      obtain ⟨wd, hrun_, hm_, hg_⟩ := MapP.putL (HL.out.mp.move (hHeld.block _ HL.out.mp.lt)) HWF.out HNO.out g HLL.out
      have hNEW := put_new (k := x.f4) (g := g) (blk_below HST.out hHeld) (HL.out.below hHeld) (HT.out.below hHeld) HNE.out HNI.out HWF.out (blk_below HXn.out hHeld) HGB.out hm_ hg_
      have HE := Aside0.mk (Chg.below (below_on HB.out HBS.out hHeld) hNEW.2.2.2.1 (Nat.le_trans HBS.out hHeld.size) (fun k hk => by rw [hk]; exact HL.out.bb))
      have HXe := Aside0.mk (hNEW.2.2.2.2 _ _ _ (blk_below HX.out hHeld))
      have HSe := Aside0.mk (Nat.le_trans (Nat.le_trans HBS.out hHeld.size) hg_.size)
      have HKe := Aside0.mk ((HK.out.below hHeld).trans (fun k T cs _ h => hNEW.2.2.2.2 k T cs h))
      have HNEW := Aside0.mk hNEW
      refine skip_ (w1 := wd) (by rfl) rfl (upd_exec (.tmp 21) (.tmp 23) (.tmp 24) _ rfl rfl rfl rfl hrun_) ?_
      clear hrun_ hm_ hg_ hNEW
      refine hK.out _ _ ?_
      clear hK K
      clear hHeld
      refine done_ (by kernel_rfl) ?_

      go_wp2_with fail
      go_meet
      case rel => exact ⟨M ++ [⟨⟨x.f4, [], []⟩, g, .slice none 0 0, .slice none 0 0⟩], M.length, ⟨⟨x.f4, [], []⟩, g, .slice none 0 0, .slice none 0 0⟩, rfl, (ens_new HNI.out).symm, by rw [List.getElem?_append_right (Nat.le_refl _), Nat.sub_self]; rfl, rfl, HNEW.out.2.1, HNEW.out.2.2.1, HNEW.out.1, HXe.out, HE.out, HSe.out, Nat.zero_le _, Nat.zero_le _, HKe.out⟩
  case rest =>
    clear HST HL HT HB HBS HX HLK HVP HBQ HR HLL0 HK
    obtain ⟨M2, i, e, rfl, hme, hi, hk, hL, hT, hst, hx, hB, hbs, hn1, hn2, hkc⟩ := hcut
    have HK := Aside0.mk hkc
    have HME := Aside0.mk hme
    have HI2 := Aside0.mk hi
    have HK2 := Aside0.mk hk
    have HL := Aside0.mk hL
    have HT := Aside0.mk hT
    have HST := Aside0.mk hst
    have HB := Aside0.mk hB
    have HBS := Aside0.mk hbs
    have HNR := Aside0.mk hn1
    have HND := Aside0.mk hn2
    have hE := hL.each e (List.mem_of_getElem? hi)
    have HI := Aside0.mk ((PutI.start hE hbs hx).below (below_drew (Below.refl wc.heap.size wc)))
    obtain ⟨Ar, cr, hvr, _, _⟩ := slice_of hE.rr
    obtain ⟨Ad, cd, hvd, _, _⟩ := slice_of hE.rd
    have HVR := Aside0.mk hvr
    have HVD := Aside0.mk hvd
    clear hkc hme hi hk hL hT hst hx hB hbs hn1 hn2 hE hvr hvd
    go_upto_region 5 with fail
    refine start_ (n := 24) (S := fun w' => w'.heap[gx]? = some (.cells #[.int .i64 x.f0, .int .i64 x.f1, .int .i64 x.f2, .int .i64 x.f3, .int .i64 x.f4, .int .i64 x.f5.f0, .int .i64 x.f5.f1, .int .i64 x.f5.f2, .bool x.f6, .slice A9 n9 c9, .slice A10 n10 c10] 47 (0, 0)) ∧ w'.heap[e.g]? = some (.cells #[.int .i64 e.l.f0, e.vr, e.vd] 36 (0, 0))) (ds := [20, 23]) #[false, false, false, false, false, false, false, false, false, false, false, false, false, false, false, false, false, false, false, false, false, false, false, false] (by kernel_rfl) rfl rfl (⟨HI.out.ent, HI.out.log⟩) (fun hHeld => ?_)
    refine pure_ (i := 0) (N := some 25) (v := ?_) (a' := ?_) #[true, false, false, false, false, false, false, false, false, false, false, false, false, false, false, false, false, false, false, false, false, false, false, false] rfl rfl (by kernel_rfl) (fun _ _ _ h => h) (Or.inl ⟨by rfl, ?_⟩) ?_ ?_
    rotate_left
    · intro w'
      go_simp
      with_reducible rfl
    rotate_left
    · simp only [Act.put, List.setIfInBounds_toArray, List.set_cons_zero, List.set_cons_succ, i64_w, i32_w]
      rfl
    refine pure_ (i := 1) (N := some 26) (v := ?_) (a' := ?_) #[true, true, false, false, false, false, false, false, false, false, false, false, false, false, false, false, false, false, false, false, false, false, false, false] rfl rfl (by kernel_rfl) (fun _ _ _ h => h) (Or.inl ⟨by rfl, ?_⟩) ?_ ?_
    rotate_left
    · intro w'
      go_simp
      with_reducible rfl
    rotate_left
    · simp only [Act.put, List.setIfInBounds_toArray, List.set_cons_zero, List.set_cons_succ, i64_w, i32_w]
      rfl
    refine pure_ (i := 2) (N := some 27) (v := ?_) (a' := ?_) #[true, true, true, false, false, false, false, false, false, false, false, false, false, false, false, false, false, false, false, false, false, false, false, false] rfl rfl (by kernel_rfl) (fun _ _ _ h => h) (Or.inl ⟨by rfl, ?_⟩) ?_ ?_
    rotate_left
    · intro w'
      go_simp
      with_reducible rfl
    rotate_left
    · simp only [Act.put, List.setIfInBounds_toArray, List.set_cons_zero, List.set_cons_succ, i64_w, i32_w]
      rfl
    refine pure_ (i := 3) (N := some 28) (v := ?_) (a' := ?_) #[true, true, true, true, false, false, false, false, false, false, false, false, false, false, false, false, false, false, false, false, false, false, false, false] rfl rfl (by kernel_rfl) (fun _ _ _ h => h) (Or.inl ⟨by rfl, ?_⟩) ?_ ?_
    rotate_left
    · intro w'
      go_simp
      with_reducible rfl
    rotate_left
    · simp only [Act.put, List.setIfInBounds_toArray, List.set_cons_zero, List.set_cons_succ, i64_w, i32_w]
      rfl
    refine pure_ (i := 4) (N := some 29) (v := ?_) (a' := ?_) #[true, true, true, true, true, false, false, false, false, false, false, false, false, false, false, false, false, false, false, false, false, false, false, false] rfl rfl (by kernel_rfl) (fun _ _ _ h => h) (Or.inl ⟨by rfl, ?_⟩) ?_ ?_
    rotate_left
    · intro w'
      go_simp
      with_reducible rfl
    rotate_left
    · simp only [Act.put, List.setIfInBounds_toArray, List.set_cons_zero, List.set_cons_succ, i64_w, i32_w]
      rfl
    refine pure_ (i := 6) (N := some 31) (v := ?_) (a' := ?_) #[true, true, true, true, true, false, true, false, false, false, false, false, false, false, false, false, false, false, false, false, false, false, false, false] rfl rfl (by kernel_rfl) (fun _ _ _ h => h) (Or.inl ⟨by rfl, ?_⟩) ?_ ?_
    rotate_left
    · intro w'
      go_simp
      with_reducible rfl
    rotate_left
    · simp only [Act.put, List.setIfInBounds_toArray, List.set_cons_zero, List.set_cons_succ, i64_w, i32_w]
      rfl
    refine pure_ (i := 10) (N := some 35) (v := ?_) (a' := ?_) #[true, true, true, true, true, false, true, false, false, false, true, false, false, false, false, false, false, false, false, false, false, false, false, false] rfl rfl (by kernel_rfl) (fun _ _ _ h => h) (Or.inl ⟨by rfl, ?_⟩) ?_ ?_
    rotate_left
    · intro w'
      go_simp
      with_reducible rfl
    rotate_left
    · simp only [Act.put, List.setIfInBounds_toArray, List.set_cons_zero, List.set_cons_succ, i64_w, i32_w]
      rfl
    refine pure_ (i := 11) (N := some 36) (v := ?_) (a' := ?_) #[true, true, true, true, true, false, true, false, false, false, true, true, false, false, false, false, false, false, false, false, false, false, false, false] rfl rfl (by kernel_rfl) (fun _ _ _ h => h) (Or.inl ⟨by rfl, ?_⟩) ?_ ?_
    rotate_left
    · intro w'
      go_simp
      with_reducible rfl
    rotate_left
    · simp only [Act.put, List.setIfInBounds_toArray, List.set_cons_zero, List.set_cons_succ, i64_w, i32_w]
      rfl
    refine pure_ (i := 12) (N := some 37) (v := ?_) (a' := ?_) #[true, true, true, true, true, false, true, false, false, false, true, true, true, false, false, false, false, false, false, false, false, false, false, false] rfl rfl (by kernel_rfl) (fun _ _ _ h => h) (Or.inl ⟨by rfl, ?_⟩) ?_ ?_
    rotate_left
    · intro w'
      go_simp
      with_reducible rfl
    rotate_left
    · simp only [Act.put, List.setIfInBounds_toArray, List.set_cons_zero, List.set_cons_succ, i64_w, i32_w]
      rfl
    refine pure_ (i := 14) (N := some 39) (v := ?_) (a' := ?_) #[true, true, true, true, true, false, true, false, false, false, true, true, true, false, true, false, false, false, false, false, false, false, false, false] rfl rfl (by kernel_rfl) (fun _ _ _ h => h) (Or.inl ⟨by rfl, ?_⟩) ?_ ?_
    rotate_left
    · intro w'
      go_simp
      with_reducible rfl
    rotate_left
    · simp only [Act.put, List.setIfInBounds_toArray, List.set_cons_zero, List.set_cons_succ, i64_w, i32_w]
      rfl
    refine take_ (i := 5) (N := some 30) (v := ?_) (a' := ?_) #[true, true, true, true, true, true, true, false, false, false, true, true, true, false, true, false, false, false, false, false, false, false, false, false] rfl rfl (by kernel_rfl) (fun _ _ _ h => h) (Or.inl ⟨by rfl, ?_⟩) hHeld ?_ ?_
    rotate_left
    · intro w' hS
      have c_ := (blk_cell (And.right hS) 1).trans (rfl : _ = some (e.vr : Value))
      rw [HVR.out] at c_
      go_simp
      with_reducible rfl
    rotate_left
    · simp only [Act.put, List.setIfInBounds_toArray, List.set_cons_zero, List.set_cons_succ, i64_w, i32_w]
      rfl
    refine take_ (i := 7) (N := some 32) (v := ?_) (a' := ?_) #[true, true, true, true, true, true, true, true, false, false, true, true, true, false, true, false, false, false, false, false, false, false, false, false] rfl rfl (by kernel_rfl) (fun _ _ _ h => h) (Or.inl ⟨by rfl, ?_⟩) hHeld ?_ ?_
    rotate_left
    · intro w' hS
      have b5_ := (blk_cell (And.left hS) 5).trans (rfl : _ = some (.int .i64 x.f5.f0 : Value))
      have b6_ := (blk_cell (And.left hS) 6).trans (rfl : _ = some (.int .i64 x.f5.f1 : Value))
      have b7_ := (blk_cell (And.left hS) 7).trans (rfl : _ = some (.int .i64 x.f5.f2 : Value))
      go_simp
      with_reducible rfl
    rotate_left
    · simp only [Act.put, List.setIfInBounds_toArray, List.set_cons_zero, List.set_cons_succ, i64_w, i32_w]
      rfl
    refine take_ (i := 13) (N := some 38) (v := ?_) (a' := ?_) #[true, true, true, true, true, true, true, true, false, false, true, true, true, true, true, false, false, false, false, false, false, false, false, false] rfl rfl (by kernel_rfl) (fun _ _ _ h => h) (Or.inl ⟨by rfl, ?_⟩) hHeld ?_ ?_
    rotate_left
    · intro w' hS
      have c_ := (blk_cell (And.right hS) 2).trans (rfl : _ = some (e.vd : Value))
      rw [HVD.out] at c_
      go_simp
      with_reducible rfl
    rotate_left
    · simp only [Act.put, List.setIfInBounds_toArray, List.set_cons_zero, List.set_cons_succ, i64_w, i32_w]
      rfl
    refine take_ (i := 15) (N := some 40) (v := ?_) (a' := ?_) #[true, true, true, true, true, true, true, true, false, false, true, true, true, true, true, true, false, false, false, false, false, false, false, false] rfl rfl (by kernel_rfl) (fun _ _ _ h => h) (Or.inl ⟨by rfl, ?_⟩) hHeld ?_ ?_
    rotate_left
    · intro w' hS
      have b8_ := (blk_cell (And.left hS) 8).trans (rfl : _ = some (.bool x.f6 : Value))
      go_simp
      with_reducible rfl
    rotate_left
    · simp only [Act.put, List.setIfInBounds_toArray, List.set_cons_zero, List.set_cons_succ, i64_w, i32_w]
      rfl
    refine two_ (i := 8) (j := 16) (Ni := some 33) (Nj := some 41) #[true, true, true, true, true, true, true, true, true, false, true, true, true, true, true, true, false, false, false, false, false, false, false, false] #[true, true, true, true, true, true, true, true, false, false, true, true, true, true, true, true, true, false, false, false, false, false, false, false] rfl rfl rfl rfl (by kernel_rfl) (by simp) (by simp) (fun K hK => ?_) (fun K hK => ?_)
    · skip
      refine value_ (w1 := wc.drew.alloc (.cells #[.int .i64 x.f5.f0, .int .i64 x.f5.f1, .int .i64 x.f5.f2] 45)) (v := .slice (some ⟨wc.drew.heap.size, 0, none⟩) 1 1) (by rfl) rfl (by first | (go_simp; done) | (go_simp; rfl)) ?_
      refine hK.out _ _ ((fun h_ => ⟨blk_below h_.1 (below_alloc (Below.refl _ _) _), blk_below h_.2 (below_alloc (Below.refl _ _) _)⟩) hHeld) (fun hHeld => ?_)
      clear hK K
      refine norm_ (a' := ?_) ?_ ?_
      rotate_left
      · show Act.put _ (some 33) _ = _
        simp only [Act.put, List.setIfInBounds_toArray, List.set_cons_zero, List.set_cons_succ, i64_w, i32_w]
        rfl
      have HGR := Aside0.mk (heap_alloc_new wc.drew (.cells #[.int .i64 x.f5.f0, .int .i64 x.f5.f1, .int .i64 x.f5.f2] 45))
      have hb_ := below_alloc (Below.refl wc.drew.heap.size wc.drew) (.cells #[.int .i64 x.f5.f0, .int .i64 x.f5.f1, .int .i64 x.f5.f2] 45)
      replace HI := Aside0.mk (HI.out.below hb_)
      try replace HGD := Aside0.mk (blk_below HGD.out hb_)
      clear hb_
      first | generalize wc.drew.alloc (.cells #[.int .i64 x.f5.f0, .int .i64 x.f5.f1, .int .i64 x.f5.f2] 45) = w4 at HGR HGD HI hHeld ⊢ | generalize wc.drew.alloc (.cells #[.int .i64 x.f5.f0, .int .i64 x.f5.f1, .int .i64 x.f5.f2] 45) = w4 at HGR HI hHeld ⊢
      obtain ⟨gr, HGr⟩ : ∃ g, Aside0 (wc.drew.heap.size = g) := ⟨_, ⟨rfl⟩⟩
      rw [HGr.out] at HGR ⊢
      refine two_ (i := 9) (j := 16) (Ni := some 34) (Nj := some 41) #[true, true, true, true, true, true, true, true, true, true, true, true, true, true, true, true, false, false, false, false, false, false, false, false] #[true, true, true, true, true, true, true, true, true, false, true, true, true, true, true, true, true, false, false, false, false, false, false, false] rfl rfl rfl rfl (by kernel_rfl) (by simp) (by simp) (fun K hK => ?_) (fun K hK => ?_)
      · skip
        obtain ⟨vr, w5, hr_, hi_, hk_, A1, c1, rfl⟩ := HI.out.appR 33 rfl x.f5 gr HGR.out HNR.out
        rw [HVR.out] at hr_
        refine value_ (w1 := w5) (v := .slice A1 (e.l.f1.length + 1) c1) (by rfl) rfl (append_exec (.tmp 30) (.tmp 33) 33 rfl rfl rfl hr_) ?_
        refine hK.out _ _ (⟨hi_.ent, hi_.log⟩) (fun hHeld => ?_)
        clear hK K
        refine norm_ (a' := ?_) ?_ ?_
        rotate_left
        · show Act.put _ (some 34) _ = _
          simp only [Act.put, List.setIfInBounds_toArray, List.set_cons_zero, List.set_cons_succ, i64_w, i32_w]
          rfl
        replace HI := Aside0.mk hi_
        try replace HGD := Aside0.mk (hk_ _ _ _ (by decide) HGD.out)
        clear hr_ hi_ hk_ HGR
        refine one_ (i := 16) (N := some 41) #[true, true, true, true, true, true, true, true, true, true, true, true, true, true, true, true, true, false, false, false, false, false, false, false] rfl rfl (by kernel_rfl) (by simp) (fun K hK => ?_)
        refine value_ (w1 := w5.alloc (.cells #[.bool x.f6] 4)) (v := .slice (some ⟨w5.heap.size, 0, none⟩) 1 1) (by rfl) rfl (by first | (go_simp; done) | (go_simp; rfl)) ?_
        refine hK.out _ _ ((fun h_ => ⟨blk_below h_.1 (below_alloc (Below.refl _ _) _), blk_below h_.2 (below_alloc (Below.refl _ _) _)⟩) hHeld) (fun hHeld => ?_)
        clear hK K
        refine norm_ (a' := ?_) ?_ ?_
        rotate_left
        · show Act.put _ (some 41) _ = _
          simp only [Act.put, List.setIfInBounds_toArray, List.set_cons_zero, List.set_cons_succ, i64_w, i32_w]
          rfl
        have HGD := Aside0.mk (heap_alloc_new w5 (.cells #[.bool x.f6] 4))
        have hb_ := below_alloc (Below.refl w5.heap.size w5) (.cells #[.bool x.f6] 4)
        replace HI := Aside0.mk (HI.out.below hb_)
        try replace HGR := Aside0.mk (blk_below HGR.out hb_)
        clear hb_
        first | generalize w5.alloc (.cells #[.bool x.f6] 4) = w6 at HGR HGD HI hHeld ⊢ | generalize w5.alloc (.cells #[.bool x.f6] 4) = w6 at HGD HI hHeld ⊢
        obtain ⟨gd, HGd⟩ : ∃ g, Aside0 (w5.heap.size = g) := ⟨_, ⟨rfl⟩⟩
        rw [HGd.out] at HGD ⊢
        refine one_ (i := 17) (N := some 42) #[true, true, true, true, true, true, true, true, true, true, true, true, true, true, true, true, true, true, false, false, false, false, false, false] rfl rfl (by kernel_rfl) (by simp) (fun K hK => ?_)
        obtain ⟨vd, w7, hr_, hi_, hk_, A2, c2, rfl⟩ := HI.out.appD 34 rfl x.f6 gd HGD.out HND.out
        rw [HVD.out] at hr_
        refine value_ (w1 := w7) (v := .slice A2 (e.l.f2.length + 1) c2) (by rfl) rfl (append_exec (.tmp 38) (.tmp 41) 34 rfl rfl rfl hr_) ?_
        refine hK.out _ _ (⟨hi_.ent, hi_.log⟩) (fun hHeld => ?_)
        clear hK K
        refine norm_ (a' := ?_) ?_ ?_
        rotate_left
        · show Act.put _ (some 42) _ = _
          simp only [Act.put, List.setIfInBounds_toArray, List.set_cons_zero, List.set_cons_succ, i64_w, i32_w]
          rfl
        replace HI := Aside0.mk hi_
        clear hr_ hi_ hk_ HGD
        refine pure_ (i := 18) (N := some 43) (v := ?_) (a' := ?_) #[true, true, true, true, true, true, true, true, true, true, true, true, true, true, true, true, true, true, true, false, false, false, false, false] rfl rfl (by kernel_rfl) (fun _ _ _ h => h) (Or.inl ⟨by rfl, ?_⟩) ?_ ?_
        rotate_left
        · intro w'
          go_simp
          with_reducible rfl
        rotate_left
        · simp only [Act.put, List.setIfInBounds_toArray, List.set_cons_zero, List.set_cons_succ, i64_w, i32_w]
          rfl
        refine pure_ (i := 19) (N := some 44) (v := ?_) (a' := ?_) #[true, true, true, true, true, true, true, true, true, true, true, true, true, true, true, true, true, true, true, true, false, false, false, false] rfl rfl (by kernel_rfl) (fun _ _ _ h => h) (Or.inl ⟨by rfl, ?_⟩) ?_ ?_
        rotate_left
        · intro w'
          go_simp
          with_reducible rfl
        rotate_left
        · simp only [Act.put, List.setIfInBounds_toArray, List.set_cons_zero, List.set_cons_succ, i64_w, i32_w]
          rfl
        refine last_ (i := 20) (N := none) #[true, true, true, true, true, true, true, true, true, true, true, true, true, true, true, true, true, true, true, true, true, false, false, false] rfl rfl (by kernel_rfl) (by simp) (fun K hK => ?_)
        have z0_ := (blk_cell HI.out.log 1).trans (rfl : _ = some (e.vr : Value))
        have f0_ := blk_frozen HI.out.log 1
        refine skip_ (w1 := w7.setCell ⟨e.g, 1, none⟩ (.slice A1 (e.l.f1.length + 1) c1)) (by rfl) rfl (by first | (go_simp; done) | (go_simp; rfl)) ?_
        clear z0_ f0_
        refine hK.out _ _ ?_
        clear hK K
        refine pure_ (i := 21) (N := some 45) (v := ?_) (a' := ?_) #[true, true, true, true, true, true, true, true, true, true, true, true, true, true, true, true, true, true, true, true, true, true, false, false] rfl rfl (by kernel_rfl) (fun _ _ _ h => h) (Or.inl ⟨by rfl, ?_⟩) ?_ ?_
        rotate_left
        · intro w'
          go_simp
          with_reducible rfl
        rotate_left
        · simp only [Act.put, List.setIfInBounds_toArray, List.set_cons_zero, List.set_cons_succ, i64_w, i32_w]
          rfl
        refine pure_ (i := 22) (N := some 46) (v := ?_) (a' := ?_) #[true, true, true, true, true, true, true, true, true, true, true, true, true, true, true, true, true, true, true, true, true, true, true, false] rfl rfl (by kernel_rfl) (fun _ _ _ h => h) (Or.inl ⟨by rfl, ?_⟩) ?_ ?_
        rotate_left
        · intro w'
          go_simp
          with_reducible rfl
        rotate_left
        · simp only [Act.put, List.setIfInBounds_toArray, List.set_cons_zero, List.set_cons_succ, i64_w, i32_w]
          rfl
        refine last_ (i := 23) (N := none) #[true, true, true, true, true, true, true, true, true, true, true, true, true, true, true, true, true, true, true, true, true, true, true, true] rfl rfl (by kernel_rfl) (by simp) (fun K hK => ?_)
        have hl_ := blk_set HI.out.log 1 (.slice A1 (e.l.f1.length + 1) c1)
        have z0_ := (blk_cell hl_ 2).trans (rfl : _ = some (e.vd : Value))
        have f0_ := blk_frozen hl_ 2
        refine skip_ (w1 := (w7.setCell ⟨e.g, 1, none⟩ (.slice A1 (e.l.f1.length + 1) c1)).setCell ⟨e.g, 2, none⟩ (.slice A2 (e.l.f2.length + 1) c2)) (by rfl) rfl (by first | (go_simp; done) | (go_simp; rfl)) ?_
        clear z0_ f0_ hl_
        refine hK.out _ _ ?_
        clear hK K
        refine done_ (by kernel_rfl) ?_
        have hEND := put_end HST.out HL.out HT.out HNE.out HBB.out HI2.out HK2.out HI.out HB.out HBS.out
        go_wp2
        go_end0
        exact ⟨rfl, hEND.2.1, Nat.le_trans HI.out.bb (by simp), HK.out.trans hEND.2.2.2, _, hEND.1, by rw [hEND.2.2.1, HME.out]; rfl⟩
      · skip
        refine value_ (w1 := w4.alloc (.cells #[.bool x.f6] 4)) (v := .slice (some ⟨w4.heap.size, 0, none⟩) 1 1) (by rfl) rfl (by first | (go_simp; done) | (go_simp; rfl)) ?_
        refine hK.out _ _ ((fun h_ => ⟨blk_below h_.1 (below_alloc (Below.refl _ _) _), blk_below h_.2 (below_alloc (Below.refl _ _) _)⟩) hHeld) (fun hHeld => ?_)
        clear hK K
        refine norm_ (a' := ?_) ?_ ?_
        rotate_left
        · show Act.put _ (some 41) _ = _
          simp only [Act.put, List.setIfInBounds_toArray, List.set_cons_zero, List.set_cons_succ, i64_w, i32_w]
          rfl
        have HGD := Aside0.mk (heap_alloc_new w4 (.cells #[.bool x.f6] 4))
        have hb_ := below_alloc (Below.refl w4.heap.size w4) (.cells #[.bool x.f6] 4)
        replace HI := Aside0.mk (HI.out.below hb_)
        try replace HGR := Aside0.mk (blk_below HGR.out hb_)
        clear hb_
        first | generalize w4.alloc (.cells #[.bool x.f6] 4) = w5 at HGR HGD HI hHeld ⊢ | generalize w4.alloc (.cells #[.bool x.f6] 4) = w5 at HGD HI hHeld ⊢
        obtain ⟨gd, HGd⟩ : ∃ g, Aside0 (w4.heap.size = g) := ⟨_, ⟨rfl⟩⟩
        rw [HGd.out] at HGD ⊢
        refine one_ (i := 9) (N := some 34) #[true, true, true, true, true, true, true, true, true, true, true, true, true, true, true, true, true, false, false, false, false, false, false, false] rfl rfl (by kernel_rfl) (by simp) (fun K hK => ?_)
        obtain ⟨vr, w6, hr_, hi_, hk_, A1, c1, rfl⟩ := HI.out.appR 33 rfl x.f5 gr HGR.out HNR.out
        rw [HVR.out] at hr_
        refine value_ (w1 := w6) (v := .slice A1 (e.l.f1.length + 1) c1) (by rfl) rfl (append_exec (.tmp 30) (.tmp 33) 33 rfl rfl rfl hr_) ?_
        refine hK.out _ _ (⟨hi_.ent, hi_.log⟩) (fun hHeld => ?_)
        clear hK K
        refine norm_ (a' := ?_) ?_ ?_
        rotate_left
        · show Act.put _ (some 34) _ = _
          simp only [Act.put, List.setIfInBounds_toArray, List.set_cons_zero, List.set_cons_succ, i64_w, i32_w]
          rfl
        replace HI := Aside0.mk hi_
        try replace HGD := Aside0.mk (hk_ _ _ _ (by decide) HGD.out)
        clear hr_ hi_ hk_ HGR
        refine one_ (i := 17) (N := some 42) #[true, true, true, true, true, true, true, true, true, true, true, true, true, true, true, true, true, true, false, false, false, false, false, false] rfl rfl (by kernel_rfl) (by simp) (fun K hK => ?_)
        obtain ⟨vd, w7, hr_, hi_, hk_, A2, c2, rfl⟩ := HI.out.appD 34 rfl x.f6 gd HGD.out HND.out
        rw [HVD.out] at hr_
        refine value_ (w1 := w7) (v := .slice A2 (e.l.f2.length + 1) c2) (by rfl) rfl (append_exec (.tmp 38) (.tmp 41) 34 rfl rfl rfl hr_) ?_
        refine hK.out _ _ (⟨hi_.ent, hi_.log⟩) (fun hHeld => ?_)
        clear hK K
        refine norm_ (a' := ?_) ?_ ?_
        rotate_left
        · show Act.put _ (some 42) _ = _
          simp only [Act.put, List.setIfInBounds_toArray, List.set_cons_zero, List.set_cons_succ, i64_w, i32_w]
          rfl
        replace HI := Aside0.mk hi_
        clear hr_ hi_ hk_ HGD
        refine pure_ (i := 18) (N := some 43) (v := ?_) (a' := ?_) #[true, true, true, true, true, true, true, true, true, true, true, true, true, true, true, true, true, true, true, false, false, false, false, false] rfl rfl (by kernel_rfl) (fun _ _ _ h => h) (Or.inl ⟨by rfl, ?_⟩) ?_ ?_
        rotate_left
        · intro w'
          go_simp
          with_reducible rfl
        rotate_left
        · simp only [Act.put, List.setIfInBounds_toArray, List.set_cons_zero, List.set_cons_succ, i64_w, i32_w]
          rfl
        refine pure_ (i := 19) (N := some 44) (v := ?_) (a' := ?_) #[true, true, true, true, true, true, true, true, true, true, true, true, true, true, true, true, true, true, true, true, false, false, false, false] rfl rfl (by kernel_rfl) (fun _ _ _ h => h) (Or.inl ⟨by rfl, ?_⟩) ?_ ?_
        rotate_left
        · intro w'
          go_simp
          with_reducible rfl
        rotate_left
        · simp only [Act.put, List.setIfInBounds_toArray, List.set_cons_zero, List.set_cons_succ, i64_w, i32_w]
          rfl
        refine last_ (i := 20) (N := none) #[true, true, true, true, true, true, true, true, true, true, true, true, true, true, true, true, true, true, true, true, true, false, false, false] rfl rfl (by kernel_rfl) (by simp) (fun K hK => ?_)
        have z0_ := (blk_cell HI.out.log 1).trans (rfl : _ = some (e.vr : Value))
        have f0_ := blk_frozen HI.out.log 1
        refine skip_ (w1 := w7.setCell ⟨e.g, 1, none⟩ (.slice A1 (e.l.f1.length + 1) c1)) (by rfl) rfl (by first | (go_simp; done) | (go_simp; rfl)) ?_
        clear z0_ f0_
        refine hK.out _ _ ?_
        clear hK K
        refine pure_ (i := 21) (N := some 45) (v := ?_) (a' := ?_) #[true, true, true, true, true, true, true, true, true, true, true, true, true, true, true, true, true, true, true, true, true, true, false, false] rfl rfl (by kernel_rfl) (fun _ _ _ h => h) (Or.inl ⟨by rfl, ?_⟩) ?_ ?_
        rotate_left
        · intro w'
          go_simp
          with_reducible rfl
        rotate_left
        · simp only [Act.put, List.setIfInBounds_toArray, List.set_cons_zero, List.set_cons_succ, i64_w, i32_w]
          rfl
        refine pure_ (i := 22) (N := some 46) (v := ?_) (a' := ?_) #[true, true, true, true, true, true, true, true, true, true, true, true, true, true, true, true, true, true, true, true, true, true, true, false] rfl rfl (by kernel_rfl) (fun _ _ _ h => h) (Or.inl ⟨by rfl, ?_⟩) ?_ ?_
        rotate_left
        · intro w'
          go_simp
          with_reducible rfl
        rotate_left
        · simp only [Act.put, List.setIfInBounds_toArray, List.set_cons_zero, List.set_cons_succ, i64_w, i32_w]
          rfl
        refine last_ (i := 23) (N := none) #[true, true, true, true, true, true, true, true, true, true, true, true, true, true, true, true, true, true, true, true, true, true, true, true] rfl rfl (by kernel_rfl) (by simp) (fun K hK => ?_)
        have hl_ := blk_set HI.out.log 1 (.slice A1 (e.l.f1.length + 1) c1)
        have z0_ := (blk_cell hl_ 2).trans (rfl : _ = some (e.vd : Value))
        have f0_ := blk_frozen hl_ 2
        refine skip_ (w1 := (w7.setCell ⟨e.g, 1, none⟩ (.slice A1 (e.l.f1.length + 1) c1)).setCell ⟨e.g, 2, none⟩ (.slice A2 (e.l.f2.length + 1) c2)) (by rfl) rfl (by first | (go_simp; done) | (go_simp; rfl)) ?_
        clear z0_ f0_ hl_
        refine hK.out _ _ ?_
        clear hK K
        refine done_ (by kernel_rfl) ?_
        have hEND := put_end HST.out HL.out HT.out HNE.out HBB.out HI2.out HK2.out HI.out HB.out HBS.out
        go_wp2
        go_end0
        exact ⟨rfl, hEND.2.1, Nat.le_trans HI.out.bb (by simp), HK.out.trans hEND.2.2.2, _, hEND.1, by rw [hEND.2.2.1, HME.out]; rfl⟩
    · skip
      refine value_ (w1 := wc.drew.alloc (.cells #[.bool x.f6] 4)) (v := .slice (some ⟨wc.drew.heap.size, 0, none⟩) 1 1) (by rfl) rfl (by first | (go_simp; done) | (go_simp; rfl)) ?_
      refine hK.out _ _ ((fun h_ => ⟨blk_below h_.1 (below_alloc (Below.refl _ _) _), blk_below h_.2 (below_alloc (Below.refl _ _) _)⟩) hHeld) (fun hHeld => ?_)
      clear hK K
      refine norm_ (a' := ?_) ?_ ?_
      rotate_left
      · show Act.put _ (some 41) _ = _
        simp only [Act.put, List.setIfInBounds_toArray, List.set_cons_zero, List.set_cons_succ, i64_w, i32_w]
        rfl
      have HGD := Aside0.mk (heap_alloc_new wc.drew (.cells #[.bool x.f6] 4))
      have hb_ := below_alloc (Below.refl wc.drew.heap.size wc.drew) (.cells #[.bool x.f6] 4)
      replace HI := Aside0.mk (HI.out.below hb_)
      try replace HGR := Aside0.mk (blk_below HGR.out hb_)
      clear hb_
      first | generalize wc.drew.alloc (.cells #[.bool x.f6] 4) = w4 at HGR HGD HI hHeld ⊢ | generalize wc.drew.alloc (.cells #[.bool x.f6] 4) = w4 at HGD HI hHeld ⊢
      obtain ⟨gd, HGd⟩ : ∃ g, Aside0 (wc.drew.heap.size = g) := ⟨_, ⟨rfl⟩⟩
      rw [HGd.out] at HGD ⊢
      refine one_ (i := 8) (N := some 33) #[true, true, true, true, true, true, true, true, true, false, true, true, true, true, true, true, true, false, false, false, false, false, false, false] rfl rfl (by kernel_rfl) (by simp) (fun K hK => ?_)
      refine value_ (w1 := w4.alloc (.cells #[.int .i64 x.f5.f0, .int .i64 x.f5.f1, .int .i64 x.f5.f2] 45)) (v := .slice (some ⟨w4.heap.size, 0, none⟩) 1 1) (by rfl) rfl (by first | (go_simp; done) | (go_simp; rfl)) ?_
      refine hK.out _ _ ((fun h_ => ⟨blk_below h_.1 (below_alloc (Below.refl _ _) _), blk_below h_.2 (below_alloc (Below.refl _ _) _)⟩) hHeld) (fun hHeld => ?_)
      clear hK K
      refine norm_ (a' := ?_) ?_ ?_
      rotate_left
      · show Act.put _ (some 33) _ = _
        simp only [Act.put, List.setIfInBounds_toArray, List.set_cons_zero, List.set_cons_succ, i64_w, i32_w]
        rfl
      have HGR := Aside0.mk (heap_alloc_new w4 (.cells #[.int .i64 x.f5.f0, .int .i64 x.f5.f1, .int .i64 x.f5.f2] 45))
      have hb_ := below_alloc (Below.refl w4.heap.size w4) (.cells #[.int .i64 x.f5.f0, .int .i64 x.f5.f1, .int .i64 x.f5.f2] 45)
      replace HI := Aside0.mk (HI.out.below hb_)
      try replace HGD := Aside0.mk (blk_below HGD.out hb_)
      clear hb_
      first | generalize w4.alloc (.cells #[.int .i64 x.f5.f0, .int .i64 x.f5.f1, .int .i64 x.f5.f2] 45) = w5 at HGR HGD HI hHeld ⊢ | generalize w4.alloc (.cells #[.int .i64 x.f5.f0, .int .i64 x.f5.f1, .int .i64 x.f5.f2] 45) = w5 at HGR HI hHeld ⊢
      obtain ⟨gr, HGr⟩ : ∃ g, Aside0 (w4.heap.size = g) := ⟨_, ⟨rfl⟩⟩
      rw [HGr.out] at HGR ⊢
      refine one_ (i := 9) (N := some 34) #[true, true, true, true, true, true, true, true, true, true, true, true, true, true, true, true, true, false, false, false, false, false, false, false] rfl rfl (by kernel_rfl) (by simp) (fun K hK => ?_)
      obtain ⟨vr, w6, hr_, hi_, hk_, A1, c1, rfl⟩ := HI.out.appR 33 rfl x.f5 gr HGR.out HNR.out
      rw [HVR.out] at hr_
      refine value_ (w1 := w6) (v := .slice A1 (e.l.f1.length + 1) c1) (by rfl) rfl (append_exec (.tmp 30) (.tmp 33) 33 rfl rfl rfl hr_) ?_
      refine hK.out _ _ (⟨hi_.ent, hi_.log⟩) (fun hHeld => ?_)
      clear hK K
      refine norm_ (a' := ?_) ?_ ?_
      rotate_left
      · show Act.put _ (some 34) _ = _
        simp only [Act.put, List.setIfInBounds_toArray, List.set_cons_zero, List.set_cons_succ, i64_w, i32_w]
        rfl
      replace HI := Aside0.mk hi_
      try replace HGD := Aside0.mk (hk_ _ _ _ (by decide) HGD.out)
      clear hr_ hi_ hk_ HGR
      refine one_ (i := 17) (N := some 42) #[true, true, true, true, true, true, true, true, true, true, true, true, true, true, true, true, true, true, false, false, false, false, false, false] rfl rfl (by kernel_rfl) (by simp) (fun K hK => ?_)
      obtain ⟨vd, w7, hr_, hi_, hk_, A2, c2, rfl⟩ := HI.out.appD 34 rfl x.f6 gd HGD.out HND.out
      rw [HVD.out] at hr_
      refine value_ (w1 := w7) (v := .slice A2 (e.l.f2.length + 1) c2) (by rfl) rfl (append_exec (.tmp 38) (.tmp 41) 34 rfl rfl rfl hr_) ?_
      refine hK.out _ _ (⟨hi_.ent, hi_.log⟩) (fun hHeld => ?_)
      clear hK K
      refine norm_ (a' := ?_) ?_ ?_
      rotate_left
      · show Act.put _ (some 42) _ = _
        simp only [Act.put, List.setIfInBounds_toArray, List.set_cons_zero, List.set_cons_succ, i64_w, i32_w]
        rfl
      replace HI := Aside0.mk hi_
      clear hr_ hi_ hk_ HGD
      refine pure_ (i := 18) (N := some 43) (v := ?_) (a' := ?_) #[true, true, true, true, true, true, true, true, true, true, true, true, true, true, true, true, true, true, true, false, false, false, false, false] rfl rfl (by kernel_rfl) (fun _ _ _ h => h) (Or.inl ⟨by rfl, ?_⟩) ?_ ?_
      rotate_left
      · intro w'
        go_simp
        with_reducible rfl
      rotate_left
      · simp only [Act.put, List.setIfInBounds_toArray, List.set_cons_zero, List.set_cons_succ, i64_w, i32_w]
        rfl
      refine pure_ (i := 19) (N := some 44) (v := ?_) (a' := ?_) #[true, true, true, true, true, true, true, true, true, true, true, true, true, true, true, true, true, true, true, true, false, false, false, false] rfl rfl (by kernel_rfl) (fun _ _ _ h => h) (Or.inl ⟨by rfl, ?_⟩) ?_ ?_
      rotate_left
      · intro w'
        go_simp
        with_reducible rfl
      rotate_left
      · simp only [Act.put, List.setIfInBounds_toArray, List.set_cons_zero, List.set_cons_succ, i64_w, i32_w]
        rfl
      refine last_ (i := 20) (N := none) #[true, true, true, true, true, true, true, true, true, true, true, true, true, true, true, true, true, true, true, true, true, false, false, false] rfl rfl (by kernel_rfl) (by simp) (fun K hK => ?_)
      have z0_ := (blk_cell HI.out.log 1).trans (rfl : _ = some (e.vr : Value))
      have f0_ := blk_frozen HI.out.log 1
      refine skip_ (w1 := w7.setCell ⟨e.g, 1, none⟩ (.slice A1 (e.l.f1.length + 1) c1)) (by rfl) rfl (by first | (go_simp; done) | (go_simp; rfl)) ?_
      clear z0_ f0_
      refine hK.out _ _ ?_
      clear hK K
      refine pure_ (i := 21) (N := some 45) (v := ?_) (a' := ?_) #[true, true, true, true, true, true, true, true, true, true, true, true, true, true, true, true, true, true, true, true, true, true, false, false] rfl rfl (by kernel_rfl) (fun _ _ _ h => h) (Or.inl ⟨by rfl, ?_⟩) ?_ ?_
      rotate_left
      · intro w'
        go_simp
        with_reducible rfl
      rotate_left
      · simp only [Act.put, List.setIfInBounds_toArray, List.set_cons_zero, List.set_cons_succ, i64_w, i32_w]
        rfl
      refine pure_ (i := 22) (N := some 46) (v := ?_) (a' := ?_) #[true, true, true, true, true, true, true, true, true, true, true, true, true, true, true, true, true, true, true, true, true, true, true, false] rfl rfl (by kernel_rfl) (fun _ _ _ h => h) (Or.inl ⟨by rfl, ?_⟩) ?_ ?_
      rotate_left
      · intro w'
        go_simp
        with_reducible rfl
      rotate_left
      · simp only [Act.put, List.setIfInBounds_toArray, List.set_cons_zero, List.set_cons_succ, i64_w, i32_w]
        rfl
      refine last_ (i := 23) (N := none) #[true, true, true, true, true, true, true, true, true, true, true, true, true, true, true, true, true, true, true, true, true, true, true, true] rfl rfl (by kernel_rfl) (by simp) (fun K hK => ?_)
      have hl_ := blk_set HI.out.log 1 (.slice A1 (e.l.f1.length + 1) c1)
      have z0_ := (blk_cell hl_ 2).trans (rfl : _ = some (e.vd : Value))
      have f0_ := blk_frozen hl_ 2
      refine skip_ (w1 := (w7.setCell ⟨e.g, 1, none⟩ (.slice A1 (e.l.f1.length + 1) c1)).setCell ⟨e.g, 2, none⟩ (.slice A2 (e.l.f2.length + 1) c2)) (by rfl) rfl (by first | (go_simp; done) | (go_simp; rfl)) ?_
      clear z0_ f0_ hl_
      refine hK.out _ _ ?_
      clear hK K
      refine done_ (by kernel_rfl) ?_
      have hEND := put_end HST.out HL.out HT.out HNE.out HBB.out HI2.out HK2.out HI.out HB.out HBS.out
      go_wp2
      go_end0
      exact ⟨rfl, hEND.2.1, Nat.le_trans HI.out.bb (by simp), HK.out.trans hEND.2.2.2, _, hEND.1, by rw [hEND.2.2.1, HME.out]; rfl⟩

end Go.Proofs.Ytmnglonjekegcaa.Vw
namespace Go.Proofs.Ytmnglonjekegcaa.Vw
open Go Go.RowKit Go.Maps Go.Proofs.Ytmnglonjekegcaa.Mk Go.Proofs.Ytmnglonjekegcaa.Rp Go.Proofs.YtmnglonjekegcaaW.PrintWords Go.Proofs.YtmnglonjekegcaaW.PrintLast Go.Proofs.YtmnglonjekegcaaW.PrintMore Go.Proofs.Ytmnglonjekegcaa.Rw Go.Proofs.Ytmnglonjekegcaa.Ow Go.Proofs.Ytmnglonjekegcaa.Mono
set_option linter.unusedVariables false
set_option linter.unusedSimpArgs false
set_option maxRecDepth 100000
theorem eg_pt (o : Option Nat) (w : World) (x y : Operand) : (eqGuard .eql 64 x y (pv o) (.pointer none)).run Try.prog w = .ok () w := by cases o <;> rfl
theorem eq_pt (o : Option Nat) (w : World) : (binOp .eql 64 (pv o) (.pointer none)).run Try.prog w = .ok (.bool o.isNone) w := by cases o <;> rfl
/-- The task that an entry names is there. -/
def TkAt (w : World) (base bs : Nat) (M : List LE) (T T' : List TE) (k : Int) (i : Nat) (e : TE) : Prop := VS w base bs M T' ∧ T'.map TE.s = ensT (T.map TE.s) k ∧ T'[i]? = some e ∧ e.t.f0 = k
set_option maxHeartbeats 4000000 in
theorem task_ok (base bs : Nat) (k : Int) (w0 w : World) (M : List LE) (T : List TE) (hv : VS w base bs M T) (hB : Below base w0 w) (hbase : base ≤ w.heap.size) (hwf : (Lit.int .i64 k).wf = true) (hM : T.length < 1000000) :
    Calls Try.prog 34 #[.pointer (some ⟨bs, 0, none⟩), .int .i64 k] w fun e w' => ∃ T' i te, e = .returned (.pointer (some ⟨te.g, 0, none⟩)) ∧ Below base w0 w' ∧ base ≤ w'.heap.size ∧ KeepX (fun _ => False) w w' ∧ TkAt w' base bs M T T' k i te := by
  obtain ⟨⟨bl, bt, hst, hL, hT, hne⟩, hbb⟩ := hv
  have HWF := Aside0.mk hwf
  have HBS := Aside0.mk hbase
  have HBB := Aside0.mk hbb
  have HB := Aside0.mk hB
  have HLL0 := Aside0.mk hM
  have HNE := Aside0.mk hne
  have HST := Aside0.mk hst
  have HL := Aside0.mk hL
  have HT := Aside0.mk hT
  clear hwf hbase hbb hB hM hne hst hL hT
  obtain ⟨o, ho⟩ := lk_nat (L := T.map fun e => (e.t.f0, (e.g : Int))) (fun p hp => by obtain ⟨e, _, rfl⟩ := List.mem_map.1 hp; exact Int.natCast_nonneg _) k
  have HLK := Aside0.mk ho
  clear ho
  have heq : ∀ w, (binOp .eql 64 (pv o) (.pointer none)).run Try.prog w = .ok (.bool o.isNone) w := fun w => eq_pt o w
  have hgq : ∀ w x y, (eqGuard .eql 64 x y (pv o) (.pointer none)).run Try.prog w = .ok () w := fun w x y => eg_pt o w x y
  have l_ := HT.out.mp.atT HWF.out HLK.out
  obtain ⟨vp, HVP⟩ : ∃ vp, Aside0 (pv o = vp) := ⟨_, ⟨rfl⟩⟩
  obtain ⟨bq, HBQ⟩ : ∃ bq, Aside0 (o.isNone = bq) := ⟨_, ⟨rfl⟩⟩
  simp only [HVP.out, HBQ.out] at heq hgq l_
  have c_ := (blk_cell HST.out 1).trans (rfl : _ = some (.map (some bt) : Value))
  go_enter Try.func34, Try.ntmps34
  go_upto_if 13 with fail
  clear heq hgq l_ c_
  go_cut [5] (fun v5 wc => ∃ (T2 : List TE) (i : Nat) (e : TE), v5 = .pointer (some ⟨e.g, 0, none⟩) ∧ Below base w0 wc ∧ base ≤ wc.heap.size ∧ KeepX (fun _ => False) w wc ∧ TkAt wc base bs M T T2 k i e)
  case first =>
    cases o with
    | some g =>
      obtain ⟨i, e, hi, hk, hg⟩ := lkT_at HLK.out
      obtain rfl : false = bq := HBQ.out
      have eg : g = e.g := by have h2 : (g : Int) = (e.g : Int) := hg; omega
      subst eg
      go_wp2_with fail
      go_meet
      case rel => exact ⟨T, i, e, HVP.out.symm, HB.out, HBS.out, KeepX.refl _ _, ⟨⟨bl, bt, HST.out, HL.out, HT.out, HNE.out⟩, HBB.out⟩, (ensT_old hi hk).symm, hi, hk⟩
    | none =>
      obtain rfl : true = bq := HBQ.out
      obtain rfl : .pointer none = vp := HVP.out
      have HCb := Aside0.mk trivial
      go_upto_region 4 with fail
      have HXn := Aside0.mk (heap_alloc_new w (.cells #[.int .i64 k, .int .i64 0, .int .i64 0, .slice none 0 0, .slice none 0 0, .int .i64 0, .slice none 0 0] 67))
      have hb_ := below_alloc (Below.refl w.heap.size w) (.cells #[.int .i64 k, .int .i64 0, .int .i64 0, .slice none 0 0, .slice none 0 0, .int .i64 0, .slice none 0 0] 67)
      have hs_ : (w.alloc (.cells #[.int .i64 k, .int .i64 0, .int .i64 0, .slice none 0 0, .slice none 0 0, .int .i64 0, .slice none 0 0] 67)).heap.size = w.heap.size + 1 := by simp
      generalize w.alloc (.cells #[.int .i64 k, .int .i64 0, .int .i64 0, .slice none 0 0, .slice none 0 0, .int .i64 0, .slice none 0 0] 67) = wb at HXn hb_ hs_ ⊢
      replace HST := Aside0.mk (blk_below HST.out hb_)
      replace HL := Aside0.mk (HL.out.below hb_)
      replace HT := Aside0.mk (HT.out.below hb_)
      replace HB := Aside0.mk (below_on HB.out HBS.out hb_)
      replace HCb := Aside0.mk ((KeepX.refl (fun _ => False) w).below hb_)
      clear hb_
      clear hs_
      obtain ⟨g, HG⟩ : ∃ g, Aside0 (w.heap.size = g) := ⟨_, ⟨rfl⟩⟩
      rw [HG.out] at HXn ⊢
      have HGB : Aside0 (base ≤ g) := ⟨by rw [← HG.out]; exact HBS.out⟩
      replace HBS := Aside0.mk (Nat.le_trans HBS.out (by have := blk_lt HXn.out; rw [HG.out]; omega : w.heap.size ≤ wb.heap.size))
      have HNO : Aside0 (lk (T.map fun e => (e.t.f0, (e.g : Int))) k = none) := ⟨HLK.out⟩
      have HNI := Aside0.mk (lkT_no HNO.out)
      have HLL : Aside0 ((T.map fun e => (e.t.f0, (e.g : Int))).length < 1000000) := ⟨by rw [List.length_map]; exact HLL0.out⟩
      obtain ⟨wd, hrun_, hm_, hg_⟩ := MapP.putT HT.out.mp HWF.out HNO.out g HLL.out
      have hNEW := task_new (k := k) (g := g) HST.out HL.out HT.out HNE.out HBB.out HNI.out HWF.out HXn.out HGB.out hm_ hg_
      have HE := Aside0.mk (Chg.below HB.out hNEW.2.1 HBS.out (fun j hj => by rw [hj]; exact HT.out.bb))
      have HSe := Aside0.mk (Nat.le_trans HBS.out hg_.size)
      have HCe := Aside0.mk (HCb.out.trans hNEW.2.2)
      have HNEW := Aside0.mk hNEW
      have HRUN := Aside0.mk hrun_
      have c_ := (blk_cell HST.out 1).trans (rfl : _ = some (.map (some bt) : Value))
      clear hrun_ hm_ hg_ hNEW
      go_wp2_with (at_mapUpdate; refine list_upd rfl rfl _ _ _ _ rfl HRUN.out ?_)
      go_meet
      case rel => exact ⟨T ++ [newE k g], T.length, newE k g, rfl, HE.out, HSe.out, HCe.out, HNEW.out.1, (ensT_new HNI.out).symm, by rw [List.getElem?_append_right (Nat.le_refl _), Nat.sub_self]; rfl, rfl⟩
  case rest =>
    clear HST HL HT HB HBS HLK HVP HBQ HLL0
    obtain ⟨T2, i, e, rfl, hB, hbs, hc, ht⟩ := hcut
    have HB := Aside0.mk hB
    have HBS := Aside0.mk hbs
    have HC := Aside0.mk hc
    have HT := Aside0.mk ht
    clear hB hbs hc ht
    go_wp2_with fail
    go_ret
    exact ⟨T2, i, e, rfl, HB.out, HBS.out, HC.out, HT.out⟩
end Go.Proofs.Ytmnglonjekegcaa.Vw
