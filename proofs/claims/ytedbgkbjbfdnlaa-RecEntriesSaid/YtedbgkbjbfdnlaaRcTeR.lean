/- The document's own entry reader (tidemillref03.ToEntry), in the form of the printer's own contracts. -/
import Derived.Test.YtedbgkbjbfdnlaaRcRf
import Derived.Test.YtedbgkbjbfdnlaaRcRl
import Derived.Test.YtedbgkbjbfdnlaaRcTrR
import Derived.Test.YtedbgkbjbfdnlaaRcTe
namespace Go.Proofs.Ytedbgkbjbfdnlaa.Rc
open Go Go.RowKit Go.Proofs.YtedbgkbjbfdnlaaW.PrintWords Go.Proofs.YtedbgkbjbfdnlaaW.PrintLast Go.Proofs.YtedbgkbjbfdnlaaW.PrintMore Go.Proofs.Ytedbgkbjbfdnlaa.Pk
set_option linter.unusedVariables false
set_option linter.unusedSimpArgs false
theorem far11 {w : World} {g g' : Nat} {cs : Array Value} {T : TypeId} (h : w.heap[g']? = some (.cells cs T (0, 0))) (hne : g' ≠ g) (v0 v1 v2 v3 v4 v5 v6 v7 v8 v9 v10 : Value) :
    ((((((((((((w).setCell ⟨g, 0, none⟩ (v0)).setCell ⟨g, 1, none⟩ (v1)).setCell ⟨g, 2, none⟩ (v2)).setCell ⟨g, 3, none⟩ (v3)).setCell ⟨g, 4, none⟩ (v4)).setCell ⟨g, 5, none⟩ (v5)).setCell ⟨g, 6, none⟩ (v6)).setCell ⟨g, 7, none⟩ (v7)).setCell ⟨g, 8, none⟩ (v8)).setCell ⟨g, 9, none⟩ (v9)).setCell ⟨g, 10, none⟩ (v10)).heap[g']? = some (.cells cs T (0, 0)) :=
  blk_far (blk_far (blk_far (blk_far (blk_far (blk_far (blk_far (blk_far (blk_far (blk_far (blk_far (h) (p := ⟨g, 0, none⟩) hne _) (p := ⟨g, 1, none⟩) hne _) (p := ⟨g, 2, none⟩) hne _) (p := ⟨g, 3, none⟩) hne _) (p := ⟨g, 4, none⟩) hne _) (p := ⟨g, 5, none⟩) hne _) (p := ⟨g, 6, none⟩) hne _) (p := ⟨g, 7, none⟩) hne _) (p := ⟨g, 8, none⟩) hne _) (p := ⟨g, 9, none⟩) hne _) (p := ⟨g, 10, none⟩) hne _
theorem at_i64 {w : World} {A : Option Addr} {n : Nat} {l : List Int} (h : Kd.C (Kd.int .i64) w A n l) {i : Nat} {x : Int} (hx : l[i]? = some x) : ∃ ad, A = some ad ∧ w.cell? (ad.add i) = some (.int .i64 x) := by
  have hlt := (List.getElem?_eq_some_iff.1 hx).1
  obtain ⟨ad, e, hy⟩ := Kd.at_int h (i : Int) (by omega) (by have := h.1; omega)
  refine ⟨ad, e, ?_⟩
  have e2 : rd l (i : Int) = x := by unfold rd; rw [Int.toNat_natCast, List.getD_eq_getElem?_getD, hx]; rfl
  rw [e2] at hy
  exact hy
/-- Five numbers in memory. -/
theorem row5 {w : World} {base : Nat} {v : Value} {l : List Int} (h : (Kd.int .i64).R 3 w base (fun _ => True) v l) (hl : l.length = 5) : ∃ ad c v0 v1 v2 v3 v4, v = .slice (some ad) 5 c ∧ 5 ≤ c ∧ l = [v0, v1, v2, v3, v4] ∧ w.cell? ad = some (.int .i64 v0) ∧ w.cell? ⟨ad.block, ad.off + 1, none⟩ = some (.int .i64 v1) ∧ w.cell? ⟨ad.block, ad.off + 2, none⟩ = some (.int .i64 v2) ∧ w.cell? ⟨ad.block, ad.off + 3, none⟩ = some (.int .i64 v3) ∧ w.cell? ⟨ad.block, ad.off + 4, none⟩ = some (.int .i64 v4) := by
  obtain ⟨A4, c4, rfl⟩ := Kd.R_slice h
  have hc := (Kd.R_reads' h).2.1
  have hC := (Kd.R_reads' h).2.2
  obtain ⟨v0, v1, v2, v3, v4, rfl⟩ := five_raw hl
  obtain ⟨ad, rfl, k0⟩ := at_i64 hC (i := 0) (x := v0) rfl
  obtain ⟨ad1, e1, k1⟩ := at_i64 hC (i := 1) (x := v1) rfl
  obtain ⟨ad2, e2, k2⟩ := at_i64 hC (i := 2) (x := v2) rfl
  obtain ⟨ad3, e3, k3⟩ := at_i64 hC (i := 3) (x := v3) rfl
  obtain ⟨ad4, e4, k4⟩ := at_i64 hC (i := 4) (x := v4) rfl
  cases e1; cases e2; cases e3; cases e4
  exact ⟨ad, c4, v0, v1, v2, v3, v4, rfl, hc, rfl, k0, k1, k2, k3, k4⟩
def InvR (xs : List Int) (i : Nat) (vs : List Int) (r : List Int) : Prop := numsR 5 xs = (vs ++ (numsR (5 - i) r).1, (numsR (5 - i) r).2.1, (numsR (5 - i) r).2.2)
theorem InvR.next {xs : List Int} {i : Nat} {vs r : List Int} (h : InvR xs i vs r) (hi : i < 5) (h0 : (rdU r).2.1 = 0) : InvR xs (i + 1) (vs ++ [capR (rdU r).1]) (rdU r).2.2 := by
  unfold InvR at h ⊢
  rw [h, show 5 - i = (5 - (i + 1)) + 1 by omega, numsR, if_neg (by simpa using h0)]
  simp
theorem InvR.bad {xs : List Int} {i : Nat} {vs r : List Int} (h : InvR xs i vs r) (hi : i < 5) (h0 : (rdU r).2.1 ≠ 0) : (numsR 5 xs).2.1 = (rdU r).2.1 := by
  unfold InvR at h
  rw [h, show 5 - i = (5 - (i + 1)) + 1 by omega, numsR, if_pos h0]
structure RT (w w0 : World) (g2 : Nat) (xs : List Int) (i : Nat) (l r : List Int) (v : Value) (A : Option Addr) (c : Nat) (wr : World) : Prop where
  row : (Kd.int .i64).R 3 wr w0.heap.size (fun _ => True) v l
  reads : (Kd.int .u8).C w A r.length r
  room : r.length ≤ c
  byt : Byt r
  most : i ≤ 5
  len : l.length = i
  inv : InvR xs i l r
  b2 : wr.heap[g2]? = some (.cells #[.int .i64 0, .int .i64 0, .int .i64 0, .int .i64 0, .int .i64 0, .int .i64 0, .int .i64 0, .int .i64 0, .bool false, .slice none 0 0, .slice none 0 0] 26 (0, 0))
  below : Below w0.heap.size w0 wr
theorem ref_may (x : Ent) (h9 : x.offs.length < 9223372036854775808) (h10 : x.order.length < 9223372036854775808) (A9 : Option Addr) (c9 : Nat) (A10 : Option Addr) (c10 : Nat) (w : World) (hr9 : Kd.C (Kd.int .i64) w A9 x.offs.length x.offs) (hc9 : x.offs.length ≤ c9) (hr10 : Kd.C (Kd.int .i64) w A10 x.order.length x.order) (hc10 : x.order.length ≤ c10) :
    Calls Try.prog 20 #[.agg #[.int .i64 x.kind, .int .i64 x.task, .int .i64 x.epoch, .int .i64 x.txn, .int .i64 x.log, .int .i64 x.key, .int .i64 x.val, .int .i64 x.time, .bool x.del, .slice A9 x.offs.length c9, .slice A10 x.order.length c10]] w fun e w' => e = .returned (.bool (may x)) ∧ Below w.heap.size w w' :=
  Rp.tidemillref03_May.calls (x.offs.length + x.order.length + 1) _ _ _ _ _ _ _ _ _ A9 c9 x.offs A10 c10 x.order (may x) w hr9 hc9 hr10 hc10 (refMayF _ x h9 h10 (by omega) (by omega))
set_option maxHeartbeats 8000000 in
set_option maxRecDepth 100000 in
theorem refEnt_ok (A0 : Option Addr) (c0 : Nat) (l0 : List Int) (w : World) (hr0 : Kd.C (Kd.int .u8) w A0 l0.length l0) (hc0 : l0.length ≤ c0) (hby : Byt l0) :
    Calls Try.prog 19 #[.slice A0 l0.length c0] w fun e w' => ∃ v9 v10 : Value, e = .returned (.tuple #[.agg #[.int .i64 (refEnt l0).1.kind, .int .i64 (refEnt l0).1.task, .int .i64 (refEnt l0).1.epoch, .int .i64 (refEnt l0).1.txn, .int .i64 (refEnt l0).1.log, .int .i64 (refEnt l0).1.key, .int .i64 (refEnt l0).1.val, .int .i64 (refEnt l0).1.time, .bool (refEnt l0).1.del, v9, v10], .int .i64 (refEnt l0).2]) ∧ Kd.R (Kd.int .i64) 3 w' w.heap.size (fun _ => True) v9 (refEnt l0).1.offs ∧ Kd.R (Kd.int .i64) 3 w' w.heap.size (fun _ => True) v10 (refEnt l0).1.order ∧ Below w.heap.size w w' := by
  have HC0 := Aside0.mk hr0
  have HR0 := Aside0.mk hc0
  have HBY := Aside0.mk hby
  clear hr0 hby hc0
  obtain ⟨q, HQ⟩ : ∃ q, Aside0 (refEnt l0 = q) := ⟨_, ⟨rfl⟩⟩
  rw [HQ.out]
  go_enter Try.func19, Try.ntmps19
  go_upto_region 1 with fail
  have BK2 := Aside0.mk (heap_alloc_new w (.cells #[.int .i64 0, .int .i64 0, .int .i64 0, .int .i64 0, .int .i64 0, .int .i64 0, .int .i64 0, .int .i64 0, .bool false, .slice none 0 0, .slice none 0 0] 26))
  have HB := Aside0.mk (below_alloc (Below.refl w.heap.size w) (.cells #[.int .i64 0, .int .i64 0, .int .i64 0, .int .i64 0, .int .i64 0, .int .i64 0, .int .i64 0, .int .i64 0, .bool false, .slice none 0 0, .slice none 0 0] 26))
  generalize w.alloc (.cells #[.int .i64 0, .int .i64 0, .int .i64 0, .int .i64 0, .int .i64 0, .int .i64 0, .int .i64 0, .int .i64 0, .bool false, .slice none 0 0, .slice none 0 0] 26) = w0 at BK2 HB ⊢
  obtain ⟨g2, HG2⟩ : ∃ g2, Aside0 (w.heap.size = g2) := ⟨_, ⟨rfl⟩⟩
  have HL2 : Aside0 (w.heap.size ≤ g2) := ⟨by rw [HG2.out]; omega⟩
  replace BK2 : Aside0 (w0.heap[g2]? = some (.cells #[.int .i64 0, .int .i64 0, .int .i64 0, .int .i64 0, .int .i64 0, .int .i64 0, .int .i64 0, .int .i64 0, .bool false, .slice none 0 0, .slice none 0 0] 26 (0, 0))) := ⟨by rw [← HG2.out]; exact BK2.out⟩
  have HLT2 := Aside0.mk (Array.getElem?_eq_some_iff.1 BK2.out).1
  go_wp2_with fail
  rw [HG2.out]
  go_loopw [4, 5, 6] (fun v4 v5 v6 wr => ∃ (i : Nat) (l r : List Int) (A2 : Option Addr) (c2 : Nat), v5 = .slice A2 r.length c2 ∧ v6 = .int .i64 (i : Int) ∧ Aside0 (RT w w0 g2 l0 i l r v4 A2 c2 wr)) (fun _ _ v6 _ => 5 - (intOf v6).toNat)
  case atStart => exact ⟨0, [], l0, A0, c0, rfl, rfl, ⟨⟨Kd.R_nil _ _ _ _ _, HC0.out, HR0.out, HBY.out, by omega, rfl, by simp [InvR], BK2.out, Below.refl _ _⟩⟩⟩
  case round =>
    obtain ⟨i, l, r, A2, c2, rfl, rfl, HRL⟩ := hrel
    have HLW := Aside0.mk HB.out.size
    by_cases hi : i < 5
    · have hib : decide ((i : Int) < 5) = true := by simp; omega
      have HX2 := Aside0.mk (rdU_range HRL.out.byt)
      have HBY2 := Aside0.mk (rdU_byt HRL.out.byt)
      obtain ⟨n2, hn2⟩ : ∃ n, Aside0 ((rdU r).1 = n) := ⟨_, ⟨rfl⟩⟩
      obtain ⟨e2, he2⟩ : ∃ n, Aside0 ((rdU r).2.1 = n) := ⟨_, ⟨rfl⟩⟩
      obtain ⟨r2, hr2⟩ : ∃ n, Aside0 ((rdU r).2.2 = n) := ⟨_, ⟨rfl⟩⟩
      rw [hn2.out] at HX2
      rw [hr2.out] at HBY2
      go_wp2_with fail
      refine (refuint w A2 c2 r _ HRL.out.reads HRL.out.room HRL.out.byt (below_step HB.out HRL.out.below)).mono ?_
      rintro e3 w2 ⟨A3, c3, he3, hC3, hc3, hb_⟩
      rw [hn2.out, he2.out, hr2.out] at he3
      rw [hr2.out] at hC3 hc3
      subst he3
      have HC3 := Aside0.mk hC3
      have HO := Aside0.mk (Kd.R_below HRL.out.row hb_)
      have HBG := Aside0.mk (below_step HRL.out.below hb_)
      replace BK2 := Aside0.mk (blk_below HRL.out.b2 hb_)
      clear hC3 hb_
      go_upto_region 7 with fail
      have BK7 := Aside0.mk (GotAt.mk (heap_alloc_new w2 (.cells #[.int .u64 n2, .slice A3 r2.length c3, .int .i64 e2] 75)))
      have hb_ := below_alloc (Below.refl w2.heap.size w2) (.cells #[.int .u64 n2, .slice A3 r2.length c3, .int .i64 e2] 75)
      have HN7 : Aside0 (w2.heap.size ≠ g2) := ⟨by have := (Array.getElem?_eq_some_iff.1 BK2.out).1; omega⟩
      generalize w2.alloc (.cells #[.int .u64 n2, .slice A3 r2.length c3, .int .i64 e2] 75) = w3 at BK7 hb_ ⊢
      replace HO := Aside0.mk (Kd.R_below HO.out hb_)
      replace HBG := Aside0.mk (below_step HBG.out hb_)
      replace BK2 := Aside0.mk (blk_below BK2.out hb_)
      clear hb_
      generalize w2.heap.size = g7 at BK7 HN7 ⊢
      replace HB := Aside0.mk (below_step HB.out HBG.out)
      by_cases he : e2 = 0
      · have z_ := he
        have hz : (e2 != 0) = false := by simpa using he
        clear he
        have hnext := Aside0.mk (HRL.out.inv.next hi (by rw [he2.out]; exact z_))
        rw [hn2.out, hr2.out] at hnext
        obtain ⟨s, HS⟩ : ∃ s, Aside0 (capR n2 = s) := ⟨_, ⟨rfl⟩⟩
        rw [HS.out] at hnext
        obtain ⟨x0_, x1_, x2_⟩ := BK7.out.cells
        have HNE2 := Aside0.mk (Kd.R_ne HO.out BK2.out (by decide))
        have HNE7 := Aside0.mk (Kd.R_ne HO.out BK7.out.b (by decide))
        have hs : (decide (n2 ≤ 1048576) = true ∧ wrap64 n2 = s) ∨ (decide (n2 ≤ 1048576) = false ∧ s = -1) := by
          have h0 := HX2.out.1
          rw [← HS.out]
          unfold capR
          by_cases h : n2 ≤ 1048576
          · exact .inl ⟨decide_eq_true h, by rw [if_pos h]; unfold wrap64; omega⟩
          · exact .inr ⟨decide_eq_false h, by rw [if_neg h]⟩
        rcases hs with ⟨hn, hw⟩ | ⟨hn, rfl⟩
        · skip
          go_wp2_with (((with_reducible refine gate_builtin (b := .append) (xs := #[.tmp 39, .tmp 41]) rfl ?_); at_builtin; refine Kd.R_append (Kd.int .i64) (w0 := w0) w0.heap.size rfl (.tmp 39) (.tmp 41) 24 3 (.int .i64 0) 8 rfl Try.underlying24 infoInt rfl (by decide) (by omega) u4 l s [.int .i64 s] (fun _ => True) (fun _ => False) rfl rfl ?aP (fun _ hk => hk.elim) (fun _ _ => trivial) ?aO ?aB ?aS ?aL ?_; (try (case aP => exact rfl)); (case aB => exact HBG.out); (case aO => exact (by (with_reducible repeat (first | apply Kd.R_alloc | apply Kd.R_drewN | apply Kd.R_drew)); exact HO.out)); (case aS => exact (below_size HBG.out)); (case aL => have := HRL.out.len; have := HRL.out.most; omega); intro v42 w42 ho_ hb hg hat; have n0_ := Aside0.mk (ho_); clear HO; have HO := n0_; clear n0_; have HB3 := Aside0.mk hb; have hk2_ := Aside0.mk (blk_grown BK2.out hg HNE2.out); have hk7_ := Aside0.mk (blk_grown BK7.out.b hg HNE7.out); have hx2 := (blk_cell hk7_.out 1).trans (rfl : _ = some (.slice A3 r2.length c3 : Value)); clear ho_ hb hg hat))
          go_roundw
          case rel => exact ⟨i + 1, _, r2, _, _, rfl, by go_num, ⟨⟨HO.out, HC3.out, hc3, HBY2.out, by omega, by have := HRL.out.len; simp only [List.length_append, List.length_cons, List.length_nil]; omega, hnext.out, hk2_.out, HB3.out⟩⟩⟩
          case measure => simp [intOf]; omega
        · skip
          go_wp2_with (((with_reducible refine gate_builtin (b := .append) (xs := #[.tmp 39, .tmp 41]) rfl ?_); at_builtin; refine Kd.R_append (Kd.int .i64) (w0 := w0) w0.heap.size rfl (.tmp 39) (.tmp 41) 24 3 (.int .i64 0) 8 rfl Try.underlying24 infoInt rfl (by decide) (by omega) u4 l (-1) [.int .i64 (-1)] (fun _ => True) (fun _ => False) rfl rfl ?aP (fun _ hk => hk.elim) (fun _ _ => trivial) ?aO ?aB ?aS ?aL ?_; (try (case aP => exact rfl)); (case aB => exact HBG.out); (case aO => exact (by (with_reducible repeat (first | apply Kd.R_alloc | apply Kd.R_drewN | apply Kd.R_drew)); exact HO.out)); (case aS => exact (below_size HBG.out)); (case aL => have := HRL.out.len; have := HRL.out.most; omega); intro v42 w42 ho_ hb hg hat; have n0_ := Aside0.mk (ho_); clear HO; have HO := n0_; clear n0_; have HB3 := Aside0.mk hb; have hk2_ := Aside0.mk (blk_grown BK2.out hg HNE2.out); have hk7_ := Aside0.mk (blk_grown BK7.out.b hg HNE7.out); have hx2 := (blk_cell hk7_.out 1).trans (rfl : _ = some (.slice A3 r2.length c3 : Value)); clear ho_ hb hg hat))
          go_roundw
          case rel => exact ⟨i + 1, _, r2, _, _, rfl, by go_num, ⟨⟨HO.out, HC3.out, hc3, HBY2.out, by omega, by have := HRL.out.len; simp only [List.length_append, List.length_cons, List.length_nil]; omega, hnext.out, hk2_.out, HB3.out⟩⟩⟩
          case measure => simp [intOf]; omega
      · skip
        have HBAD := Aside0.mk (HRL.out.inv.bad hi (by rw [he2.out]; exact he))
        rw [he2.out] at HBAD
        have hz : (e2 != 0) = true := by simpa using he
        have he2 := Aside0.mk he
        clear he
        obtain rfl : q = (zeroE, e2) := by rw [← HQ.out]; unfold refEnt; simp only; rw [HBAD.out, if_pos he2.out]
        obtain ⟨x0_, x1_, x2_⟩ := BK7.out.cells
        go_wp2_with fail
        clear x0_ x1_
        refine start_ (n := 5) (S := fun w' => w'.cell? ⟨g7, 2, none⟩ = some (.int .i64 e2)) (ds := []) #[false, false, false, false, false] (by kernel_rfl) rfl rfl (x2_) (fun hHeld => ?_)
        refine pure_ (i := 0) (N := some 30) (v := ?_) (a' := ?_) #[true, false, false, false, false] rfl rfl (by kernel_rfl) (fun _ _ _ h => h) (Or.inl ⟨by rfl, ?_⟩) ?_ ?_
        rotate_left
        · intro w'
          go_simp
          with_reducible rfl
        rotate_left
        · simp only [Act.put, List.setIfInBounds_toArray, List.set_cons_zero, List.set_cons_succ, i64_w, i32_w]
          rfl
        refine pure_ (i := 1) (N := some 31) (v := ?_) (a' := ?_) #[true, true, false, false, false] rfl rfl (by kernel_rfl) (fun _ _ _ h => h) (Or.inl ⟨by rfl, ?_⟩) ?_ ?_
        rotate_left
        · intro w'
          go_simp
          with_reducible rfl
        rotate_left
        · simp only [Act.put, List.setIfInBounds_toArray, List.set_cons_zero, List.set_cons_succ, i64_w, i32_w]
          rfl
        refine take_ (i := 2) (N := some 32) (v := ?_) (a' := ?_) #[true, true, true, false, false] rfl rfl (by kernel_rfl) (fun _ _ _ h => h) (Or.inl ⟨by rfl, ?_⟩) hHeld ?_ ?_
        rotate_left
        · intro w' hS
          have c_ := hS
          go_simp
          with_reducible rfl
        rotate_left
        · simp only [Act.put, List.setIfInBounds_toArray, List.set_cons_zero, List.set_cons_succ, i64_w, i32_w]
          rfl
        refine one_ (i := 3) (N := none) #[true, true, true, true, false] rfl rfl (by kernel_rfl) (by simp) (fun K hK => ?_)
        replace BK2 : Aside0 (w3.drew.heap[g2]? = some (.cells #[.int .i64 0, .int .i64 0, .int .i64 0, .int .i64 0, .int .i64 0, .int .i64 0, .int .i64 0, .int .i64 0, .bool false, .slice none 0 0, .slice none 0 0] 26 (0, 0))) := ⟨BK2.out⟩
        replace BK7 := Aside0.mk (BK7.out.below (below_drew (Below.refl _ _)))
        replace HB := Aside0.mk (below_drew HB.out)
        generalize w3.drew = wd at BK2 BK7 HB hHeld ⊢
        have d0_ := (blk_cell BK2.out 0).trans (rfl : _ = some (.int .i64 0 : Value))
        have d1_ := (blk_cell BK2.out 1).trans (rfl : _ = some (.int .i64 0 : Value))
        have d2_ := (blk_cell BK2.out 2).trans (rfl : _ = some (.int .i64 0 : Value))
        have d3_ := (blk_cell BK2.out 3).trans (rfl : _ = some (.int .i64 0 : Value))
        have d4_ := (blk_cell BK2.out 4).trans (rfl : _ = some (.int .i64 0 : Value))
        have d5_ := (blk_cell BK2.out 5).trans (rfl : _ = some (.int .i64 0 : Value))
        have d6_ := (blk_cell BK2.out 6).trans (rfl : _ = some (.int .i64 0 : Value))
        have d7_ := (blk_cell BK2.out 7).trans (rfl : _ = some (.int .i64 0 : Value))
        have d8_ := (blk_cell BK2.out 8).trans (rfl : _ = some (.bool false : Value))
        have d9_ := (blk_cell BK2.out 9).trans (rfl : _ = some (.slice none 0 0 : Value))
        have d10_ := (blk_cell BK2.out 10).trans (rfl : _ = some (.slice none 0 0 : Value))
        have k0_ := blk_frozen BK2.out 0
        have k1_ := blk_frozen BK2.out 1
        have k2_ := blk_frozen BK2.out 2
        have k3_ := blk_frozen BK2.out 3
        have k4_ := blk_frozen BK2.out 4
        have k5_ := blk_frozen BK2.out 5
        have k6_ := blk_frozen BK2.out 6
        have k7_ := blk_frozen BK2.out 7
        have k8_ := blk_frozen BK2.out 8
        have k9_ := blk_frozen BK2.out 9
        have k10_ := blk_frozen BK2.out 10
        refine skip_ (w1 := (((((((((((wd).setCell ⟨g2, 0, none⟩ (.int .i64 0)).setCell ⟨g2, 1, none⟩ (.int .i64 0)).setCell ⟨g2, 2, none⟩ (.int .i64 0)).setCell ⟨g2, 3, none⟩ (.int .i64 0)).setCell ⟨g2, 4, none⟩ (.int .i64 0)).setCell ⟨g2, 5, none⟩ (.int .i64 0)).setCell ⟨g2, 6, none⟩ (.int .i64 0)).setCell ⟨g2, 7, none⟩ (.int .i64 0)).setCell ⟨g2, 8, none⟩ (.bool false)).setCell ⟨g2, 9, none⟩ (.slice none 0 0)).setCell ⟨g2, 10, none⟩ (.slice none 0 0)) (by rfl) rfl (by go_simp; done) ?_
        refine hK.out _ _ ((blk_cell (far11 BK7.out.b HN7.out (.int .i64 0) (.int .i64 0) (.int .i64 0) (.int .i64 0) (.int .i64 0) (.int .i64 0) (.int .i64 0) (.int .i64 0) (.bool false) (.slice none 0 0) (.slice none 0 0)) 2).trans rfl) (fun hHeld => ?_)
        clear hK K
        refine pure_ (i := 4) (N := some 3) (v := ?_) (a' := ?_) #[true, true, true, true, true] rfl rfl (by kernel_rfl) (fun _ _ _ h => h) (Or.inl ⟨by rfl, ?_⟩) ?_ ?_
        rotate_left
        · intro w'
          go_simp
          with_reducible rfl
        rotate_left
        · simp only [Act.put, List.setIfInBounds_toArray, List.set_cons_zero, List.set_cons_succ, i64_w, i32_w]
          rfl
        refine done_ (by kernel_rfl) ?_
        clear hHeld x2_
        clear d0_ k0_ d1_ k1_ d2_ k2_ d3_ k3_ d4_ k4_ d5_ k5_ d6_ k6_ d7_ k7_ d8_ k8_ d9_ k9_ d10_ k10_
        obtain ⟨w99, hw_, B_, G_⟩ := B_fin (w := wd) BK2.out HB.out HL2.out (.int .i64 0) (.int .i64 0) (.int .i64 0) (.int .i64 0) (.int .i64 0) (.int .i64 0) (.int .i64 0) (.int .i64 0) (.bool false) (.slice none 0 0) (.slice none 0 0)
        rw [← hw_] at ⊢
        clear hw_
        have p0_ : w99.cell? ⟨g2, 0, none⟩ = some (.int .i64 0) := (blk_cell B_ 0).trans rfl
        have p1_ : w99.cell? ⟨g2, 1, none⟩ = some (.int .i64 0) := (blk_cell B_ 1).trans rfl
        have p2_ : w99.cell? ⟨g2, 2, none⟩ = some (.int .i64 0) := (blk_cell B_ 2).trans rfl
        have p3_ : w99.cell? ⟨g2, 3, none⟩ = some (.int .i64 0) := (blk_cell B_ 3).trans rfl
        have p4_ : w99.cell? ⟨g2, 4, none⟩ = some (.int .i64 0) := (blk_cell B_ 4).trans rfl
        have p5_ : w99.cell? ⟨g2, 5, none⟩ = some (.int .i64 0) := (blk_cell B_ 5).trans rfl
        have p6_ : w99.cell? ⟨g2, 6, none⟩ = some (.int .i64 0) := (blk_cell B_ 6).trans rfl
        have p7_ : w99.cell? ⟨g2, 7, none⟩ = some (.int .i64 0) := (blk_cell B_ 7).trans rfl
        have p8_ : w99.cell? ⟨g2, 8, none⟩ = some (.bool false) := (blk_cell B_ 8).trans rfl
        have p9_ : w99.cell? ⟨g2, 9, none⟩ = some (.slice none 0 0) := (blk_cell B_ 9).trans rfl
        have p10_ : w99.cell? ⟨g2, 10, none⟩ = some (.slice none 0 0) := (blk_cell B_ 10).trans rfl
        go_wp2
        refine bodyPost_ret (v := .tuple #[.agg #[.int .i64 0, .int .i64 0, .int .i64 0, .int .i64 0, .int .i64 0, .int .i64 0, .int .i64 0, .int .i64 0, .bool false, .slice none 0 0, .slice none 0 0], .int .i64 e2]) (by simp [results, Try.results19, go_sem, p0_, p1_, p2_, p3_, p4_, p5_, p6_, p7_, p8_, p9_, p10_]) rfl ?_
        exact ⟨.slice none 0 0, .slice none 0 0, rfl, Kd.R_nil _ _ _ _ _, Kd.R_nil _ _ _ _ _, G_⟩
    · skip
      obtain rfl : i = 5 := by have := HRL.out.most; omega
      obtain ⟨ad, c4, v0, v1, v2, v3, v4, rfl, hc4, rfl, k0, k1, k2, k3, k4⟩ := row5 HRL.out.row HRL.out.len
      have HN : Aside0 (numsR 5 l0 = ([v0, v1, v2, v3, v4], 0, r)) := ⟨by have h := HRL.out.inv; unfold InvR at h; rw [h]; simp [numsR]⟩
      have HK := Aside0.mk (And.intro k0 (And.intro k1 (And.intro k2 (And.intro k3 k4))))
      clear k0 k1 k2 k3 k4
      have HC5 := Aside0.mk (Kd.C_below (Kd.C_below HRL.out.reads HB.out) HRL.out.below)
      have HD5 := Aside0.mk HRL.out.room
      have HY5 := Aside0.mk HRL.out.byt
      replace BK2 := Aside0.mk HRL.out.b2
      replace HB := Aside0.mk (below_step HB.out HRL.out.below)
      clear HRL HC0 hi
      obtain ⟨q6, H6⟩ : ∃ q, Aside0 (rec3 r = q) := ⟨_, ⟨rfl⟩⟩
      go_wp2_with fail
      refine (three_ok wr A2 c2 r _ HC5.out HD5.out HY5.out).mono ?_
      rintro e w6 ⟨A6, c6, he_, hC_, hc6, hb_⟩
      rw [H6.out] at he_ hC_ hc6
      subst he_
      have HIS := Aside0.mk (fun h => rec3_is HY5.out (h : (rec3 r).2.1 = 0))
      rw [H6.out] at HIS
      obtain ⟨⟨y0, y1, y2⟩, e6, r6⟩ := q6
      simp only at hC_ hc6 HIS
      have HC6 := Aside0.mk hC_
      clear hC_
      have HBR := Aside0.mk hb_
      replace BK2 := Aside0.mk (blk_below BK2.out hb_)
      replace HB := Aside0.mk (below_step HB.out hb_)
      clear hb_
      go_upto_region 15 with fail
      have BK9 := Aside0.mk (heap_alloc_new w6 (.cells #[.int .i64 y0, .int .i64 y1, .int .i64 y2] 23))
      have hb_ := below_alloc (Below.refl w6.heap.size w6) (.cells #[.int .i64 y0, .int .i64 y1, .int .i64 y2] 23)
      have HN9 : Aside0 (w6.heap.size ≠ g2) := ⟨by have := (Array.getElem?_eq_some_iff.1 BK2.out).1; omega⟩
      generalize w6.alloc (.cells #[.int .i64 y0, .int .i64 y1, .int .i64 y2] 23) = w7 at BK9 hb_ ⊢
      replace HBR := Aside0.mk (below_step HBR.out hb_)
      replace HB := Aside0.mk (below_step HB.out hb_)
      replace BK2 := Aside0.mk (blk_below BK2.out hb_)
      clear hb_
      generalize w6.heap.size = g9 at BK9 HN9 ⊢
      by_cases he : e6 = 0
      rotate_left
      · skip
        have hz : (e6 != 0) = true := by simpa using he
        have he2 := Aside0.mk he
        clear he
        obtain rfl : q = (zeroE, e6) := by rw [← HQ.out]; unfold refEnt; simp only; rw [HN.out, if_neg (by simp), H6.out, if_pos he2.out]
        have d0_ := (blk_cell BK2.out 0).trans (rfl : _ = some (.int .i64 0 : Value))
        have d1_ := (blk_cell BK2.out 1).trans (rfl : _ = some (.int .i64 0 : Value))
        have d2_ := (blk_cell BK2.out 2).trans (rfl : _ = some (.int .i64 0 : Value))
        have d3_ := (blk_cell BK2.out 3).trans (rfl : _ = some (.int .i64 0 : Value))
        have d4_ := (blk_cell BK2.out 4).trans (rfl : _ = some (.int .i64 0 : Value))
        have d5_ := (blk_cell BK2.out 5).trans (rfl : _ = some (.int .i64 0 : Value))
        have d6_ := (blk_cell BK2.out 6).trans (rfl : _ = some (.int .i64 0 : Value))
        have d7_ := (blk_cell BK2.out 7).trans (rfl : _ = some (.int .i64 0 : Value))
        have d8_ := (blk_cell BK2.out 8).trans (rfl : _ = some (.bool false : Value))
        have d9_ := (blk_cell BK2.out 9).trans (rfl : _ = some (.slice none 0 0 : Value))
        have d10_ := (blk_cell BK2.out 10).trans (rfl : _ = some (.slice none 0 0 : Value))
        have k0_ := blk_frozen BK2.out 0
        have k1_ := blk_frozen BK2.out 1
        have k2_ := blk_frozen BK2.out 2
        have k3_ := blk_frozen BK2.out 3
        have k4_ := blk_frozen BK2.out 4
        have k5_ := blk_frozen BK2.out 5
        have k6_ := blk_frozen BK2.out 6
        have k7_ := blk_frozen BK2.out 7
        have k8_ := blk_frozen BK2.out 8
        have k9_ := blk_frozen BK2.out 9
        have k10_ := blk_frozen BK2.out 10
        go_wp2
        clear d0_ k0_ d1_ k1_ d2_ k2_ d3_ k3_ d4_ k4_ d5_ k5_ d6_ k6_ d7_ k7_ d8_ k8_ d9_ k9_ d10_ k10_
        obtain ⟨w99, hw_, B_, G_⟩ := B_fin (w := w7) BK2.out HB.out HL2.out (.int .i64 0) (.int .i64 0) (.int .i64 0) (.int .i64 0) (.int .i64 0) (.int .i64 0) (.int .i64 0) (.int .i64 0) (.bool false) (.slice none 0 0) (.slice none 0 0)
        rw [← hw_] at ⊢
        clear hw_
        have p0_ : w99.cell? ⟨g2, 0, none⟩ = some (.int .i64 0) := (blk_cell B_ 0).trans rfl
        have p1_ : w99.cell? ⟨g2, 1, none⟩ = some (.int .i64 0) := (blk_cell B_ 1).trans rfl
        have p2_ : w99.cell? ⟨g2, 2, none⟩ = some (.int .i64 0) := (blk_cell B_ 2).trans rfl
        have p3_ : w99.cell? ⟨g2, 3, none⟩ = some (.int .i64 0) := (blk_cell B_ 3).trans rfl
        have p4_ : w99.cell? ⟨g2, 4, none⟩ = some (.int .i64 0) := (blk_cell B_ 4).trans rfl
        have p5_ : w99.cell? ⟨g2, 5, none⟩ = some (.int .i64 0) := (blk_cell B_ 5).trans rfl
        have p6_ : w99.cell? ⟨g2, 6, none⟩ = some (.int .i64 0) := (blk_cell B_ 6).trans rfl
        have p7_ : w99.cell? ⟨g2, 7, none⟩ = some (.int .i64 0) := (blk_cell B_ 7).trans rfl
        have p8_ : w99.cell? ⟨g2, 8, none⟩ = some (.bool false) := (blk_cell B_ 8).trans rfl
        have p9_ : w99.cell? ⟨g2, 9, none⟩ = some (.slice none 0 0) := (blk_cell B_ 9).trans rfl
        have p10_ : w99.cell? ⟨g2, 10, none⟩ = some (.slice none 0 0) := (blk_cell B_ 10).trans rfl
        refine bodyPost_ret (v := .tuple #[.agg #[.int .i64 0, .int .i64 0, .int .i64 0, .int .i64 0, .int .i64 0, .int .i64 0, .int .i64 0, .int .i64 0, .bool false, .slice none 0 0, .slice none 0 0], .int .i64 e6]) (by simp [results, Try.results19, go_sem, p0_, p1_, p2_, p3_, p4_, p5_, p6_, p7_, p8_, p9_, p10_]) rfl ?_
        exact ⟨.slice none 0 0, .slice none 0 0, rfl, Kd.R_nil _ _ _ _ _, Kd.R_nil _ _ _ _ _, G_⟩
      have z6_ := he
      have hz6 : (e6 != 0) = false := by simpa using he
      clear he
      have HY6 := Aside0.mk (HIS.out z6_).2.1
      clear HIS
      have HX8 := Aside0.mk (rdU_range HY6.out)
      have HY8 := Aside0.mk (rdU_byt HY6.out)
      obtain ⟨n8, HN8⟩ : ∃ s, Aside0 ((rdU r6).1 = s) := ⟨_, ⟨rfl⟩⟩
      obtain ⟨e8, HE8⟩ : ∃ s, Aside0 ((rdU r6).2.1 = s) := ⟨_, ⟨rfl⟩⟩
      obtain ⟨r8, HR8⟩ : ∃ s, Aside0 ((rdU r6).2.2 = s) := ⟨_, ⟨rfl⟩⟩
      rw [HR8.out] at HY8
      rw [HN8.out] at HX8
      go_wp2_with fail
      refine (refuint wr A6 c6 r6 _ HC6.out hc6 HY6.out HBR.out).mono ?_
      rintro e w8 ⟨A8, c8, he_, hC_, hc8, hb_⟩
      rw [HN8.out, HE8.out, HR8.out] at he_
      rw [HR8.out] at hC_ hc8
      subst he_
      have HC8 := Aside0.mk hC_
      replace HBR := Aside0.mk (below_step HBR.out hb_)
      replace HB := Aside0.mk (below_step HB.out hb_)
      replace BK2 := Aside0.mk (blk_below BK2.out hb_)
      replace BK9 := Aside0.mk (blk_below BK9.out hb_)
      clear hC_ hb_
      go_upto_region 18 with fail
      have BK12 := Aside0.mk (GotAt.mk (heap_alloc_new w8 (.cells #[.int .u64 n8, .slice A8 r8.length c8, .int .i64 e8] 75)))
      have hb_ := below_alloc (Below.refl w8.heap.size w8) (.cells #[.int .u64 n8, .slice A8 r8.length c8, .int .i64 e8] 75)
      have HN12 : Aside0 (w8.heap.size ≠ g2) := ⟨by have := (Array.getElem?_eq_some_iff.1 BK2.out).1; omega⟩
      generalize w8.alloc (.cells #[.int .u64 n8, .slice A8 r8.length c8, .int .i64 e8] 75) = w9 at BK12 hb_ ⊢
      replace HBR := Aside0.mk (below_step HBR.out hb_)
      replace HB := Aside0.mk (below_step HB.out hb_)
      replace BK2 := Aside0.mk (blk_below BK2.out hb_)
      replace BK9 := Aside0.mk (blk_below BK9.out hb_)
      clear hb_
      generalize w8.heap.size = g12 at BK12 HN12 ⊢
      by_cases he : e8 = 0
      rotate_left
      · skip
        have hz : (e8 != 0) = true := by simpa using he
        have he2 := Aside0.mk he
        clear he
        obtain rfl : q = (zeroE, e8) := by rw [← HQ.out]; unfold refEnt; simp only; rw [HN.out, if_neg (by simp), H6.out, if_neg (by simp [z6_]), HE8.out, if_pos he2.out]
        obtain ⟨x0_, x1_, x2_⟩ := BK12.out.cells
        go_wp2_with fail
        clear x0_ x1_
        refine start_ (n := 5) (S := fun w' => w'.cell? ⟨g12, 2, none⟩ = some (.int .i64 e8)) (ds := []) #[false, false, false, false, false] (by kernel_rfl) rfl rfl (x2_) (fun hHeld => ?_)
        refine pure_ (i := 0) (N := some 60) (v := ?_) (a' := ?_) #[true, false, false, false, false] rfl rfl (by kernel_rfl) (fun _ _ _ h => h) (Or.inl ⟨by rfl, ?_⟩) ?_ ?_
        rotate_left
        · intro w'
          go_simp
          with_reducible rfl
        rotate_left
        · simp only [Act.put, List.setIfInBounds_toArray, List.set_cons_zero, List.set_cons_succ, i64_w, i32_w]
          rfl
        refine pure_ (i := 1) (N := some 61) (v := ?_) (a' := ?_) #[true, true, false, false, false] rfl rfl (by kernel_rfl) (fun _ _ _ h => h) (Or.inl ⟨by rfl, ?_⟩) ?_ ?_
        rotate_left
        · intro w'
          go_simp
          with_reducible rfl
        rotate_left
        · simp only [Act.put, List.setIfInBounds_toArray, List.set_cons_zero, List.set_cons_succ, i64_w, i32_w]
          rfl
        refine take_ (i := 2) (N := some 62) (v := ?_) (a' := ?_) #[true, true, true, false, false] rfl rfl (by kernel_rfl) (fun _ _ _ h => h) (Or.inl ⟨by rfl, ?_⟩) hHeld ?_ ?_
        rotate_left
        · intro w' hS
          have c_ := hS
          go_simp
          with_reducible rfl
        rotate_left
        · simp only [Act.put, List.setIfInBounds_toArray, List.set_cons_zero, List.set_cons_succ, i64_w, i32_w]
          rfl
        refine one_ (i := 3) (N := none) #[true, true, true, true, false] rfl rfl (by kernel_rfl) (by simp) (fun K hK => ?_)
        replace BK2 : Aside0 (w9.drew.heap[g2]? = some (.cells #[.int .i64 0, .int .i64 0, .int .i64 0, .int .i64 0, .int .i64 0, .int .i64 0, .int .i64 0, .int .i64 0, .bool false, .slice none 0 0, .slice none 0 0] 26 (0, 0))) := ⟨BK2.out⟩
        replace BK12 := Aside0.mk (BK12.out.below (below_drew (Below.refl _ _)))
        replace HB := Aside0.mk (below_drew HB.out)
        generalize w9.drew = wd at BK2 BK12 HB hHeld ⊢
        have d0_ := (blk_cell BK2.out 0).trans (rfl : _ = some (.int .i64 0 : Value))
        have d1_ := (blk_cell BK2.out 1).trans (rfl : _ = some (.int .i64 0 : Value))
        have d2_ := (blk_cell BK2.out 2).trans (rfl : _ = some (.int .i64 0 : Value))
        have d3_ := (blk_cell BK2.out 3).trans (rfl : _ = some (.int .i64 0 : Value))
        have d4_ := (blk_cell BK2.out 4).trans (rfl : _ = some (.int .i64 0 : Value))
        have d5_ := (blk_cell BK2.out 5).trans (rfl : _ = some (.int .i64 0 : Value))
        have d6_ := (blk_cell BK2.out 6).trans (rfl : _ = some (.int .i64 0 : Value))
        have d7_ := (blk_cell BK2.out 7).trans (rfl : _ = some (.int .i64 0 : Value))
        have d8_ := (blk_cell BK2.out 8).trans (rfl : _ = some (.bool false : Value))
        have d9_ := (blk_cell BK2.out 9).trans (rfl : _ = some (.slice none 0 0 : Value))
        have d10_ := (blk_cell BK2.out 10).trans (rfl : _ = some (.slice none 0 0 : Value))
        have k0_ := blk_frozen BK2.out 0
        have k1_ := blk_frozen BK2.out 1
        have k2_ := blk_frozen BK2.out 2
        have k3_ := blk_frozen BK2.out 3
        have k4_ := blk_frozen BK2.out 4
        have k5_ := blk_frozen BK2.out 5
        have k6_ := blk_frozen BK2.out 6
        have k7_ := blk_frozen BK2.out 7
        have k8_ := blk_frozen BK2.out 8
        have k9_ := blk_frozen BK2.out 9
        have k10_ := blk_frozen BK2.out 10
        refine skip_ (w1 := (((((((((((wd).setCell ⟨g2, 0, none⟩ (.int .i64 0)).setCell ⟨g2, 1, none⟩ (.int .i64 0)).setCell ⟨g2, 2, none⟩ (.int .i64 0)).setCell ⟨g2, 3, none⟩ (.int .i64 0)).setCell ⟨g2, 4, none⟩ (.int .i64 0)).setCell ⟨g2, 5, none⟩ (.int .i64 0)).setCell ⟨g2, 6, none⟩ (.int .i64 0)).setCell ⟨g2, 7, none⟩ (.int .i64 0)).setCell ⟨g2, 8, none⟩ (.bool false)).setCell ⟨g2, 9, none⟩ (.slice none 0 0)).setCell ⟨g2, 10, none⟩ (.slice none 0 0)) (by rfl) rfl (by go_simp; done) ?_
        refine hK.out _ _ ((blk_cell (far11 BK12.out.b HN12.out (.int .i64 0) (.int .i64 0) (.int .i64 0) (.int .i64 0) (.int .i64 0) (.int .i64 0) (.int .i64 0) (.int .i64 0) (.bool false) (.slice none 0 0) (.slice none 0 0)) 2).trans rfl) (fun hHeld => ?_)
        clear hK K
        refine pure_ (i := 4) (N := some 3) (v := ?_) (a' := ?_) #[true, true, true, true, true] rfl rfl (by kernel_rfl) (fun _ _ _ h => h) (Or.inl ⟨by rfl, ?_⟩) ?_ ?_
        rotate_left
        · intro w'
          go_simp
          with_reducible rfl
        rotate_left
        · simp only [Act.put, List.setIfInBounds_toArray, List.set_cons_zero, List.set_cons_succ, i64_w, i32_w]
          rfl
        refine done_ (by kernel_rfl) ?_
        clear hHeld x2_
        clear d0_ k0_ d1_ k1_ d2_ k2_ d3_ k3_ d4_ k4_ d5_ k5_ d6_ k6_ d7_ k7_ d8_ k8_ d9_ k9_ d10_ k10_
        obtain ⟨w99, hw_, B_, G_⟩ := B_fin (w := wd) BK2.out HB.out HL2.out (.int .i64 0) (.int .i64 0) (.int .i64 0) (.int .i64 0) (.int .i64 0) (.int .i64 0) (.int .i64 0) (.int .i64 0) (.bool false) (.slice none 0 0) (.slice none 0 0)
        rw [← hw_] at ⊢
        clear hw_
        have p0_ : w99.cell? ⟨g2, 0, none⟩ = some (.int .i64 0) := (blk_cell B_ 0).trans rfl
        have p1_ : w99.cell? ⟨g2, 1, none⟩ = some (.int .i64 0) := (blk_cell B_ 1).trans rfl
        have p2_ : w99.cell? ⟨g2, 2, none⟩ = some (.int .i64 0) := (blk_cell B_ 2).trans rfl
        have p3_ : w99.cell? ⟨g2, 3, none⟩ = some (.int .i64 0) := (blk_cell B_ 3).trans rfl
        have p4_ : w99.cell? ⟨g2, 4, none⟩ = some (.int .i64 0) := (blk_cell B_ 4).trans rfl
        have p5_ : w99.cell? ⟨g2, 5, none⟩ = some (.int .i64 0) := (blk_cell B_ 5).trans rfl
        have p6_ : w99.cell? ⟨g2, 6, none⟩ = some (.int .i64 0) := (blk_cell B_ 6).trans rfl
        have p7_ : w99.cell? ⟨g2, 7, none⟩ = some (.int .i64 0) := (blk_cell B_ 7).trans rfl
        have p8_ : w99.cell? ⟨g2, 8, none⟩ = some (.bool false) := (blk_cell B_ 8).trans rfl
        have p9_ : w99.cell? ⟨g2, 9, none⟩ = some (.slice none 0 0) := (blk_cell B_ 9).trans rfl
        have p10_ : w99.cell? ⟨g2, 10, none⟩ = some (.slice none 0 0) := (blk_cell B_ 10).trans rfl
        go_wp2
        refine bodyPost_ret (v := .tuple #[.agg #[.int .i64 0, .int .i64 0, .int .i64 0, .int .i64 0, .int .i64 0, .int .i64 0, .int .i64 0, .int .i64 0, .bool false, .slice none 0 0, .slice none 0 0], .int .i64 e8]) (by simp [results, Try.results19, go_sem, p0_, p1_, p2_, p3_, p4_, p5_, p6_, p7_, p8_, p9_, p10_]) rfl ?_
        exact ⟨.slice none 0 0, .slice none 0 0, rfl, Kd.R_nil _ _ _ _ _, Kd.R_nil _ _ _ _ _, G_⟩
      have z8_ := he
      have hz8 : (e8 != 0) = false := by simpa using he
      clear he
      obtain ⟨x0_, x1_, x2_⟩ := BK12.out.cells
      obtain ⟨o9, HO9⟩ : ∃ q, Aside0 (rdL 8 r8 = q) := ⟨_, ⟨rfl⟩⟩
      have HIS := Aside0.mk (fun h => rdL_is (m := 8) HY8.out h)
      rw [HO9.out] at HIS
      have HLW9 := Aside0.mk HB.out.size
      go_wp2_with fail
      refine (refints wr A8 c8 r8 8 _ HC8.out hc8 HY8.out HBR.out (by omega) (by omega) (by omega)).mono ?_
      rintro e w10 ⟨v9, A9, c9, he_, ho_, hC_, hc9, hb_⟩
      rw [HO9.out] at he_ ho_ hC_ hc9
      subst he_
      obtain ⟨l9, e9, r9⟩ := o9
      simp only at ho_ hC_ hc9 HIS
      obtain ⟨B9, d9, rfl⟩ := Kd.R_slice ho_
      have HV9 := Aside0.mk (Kd.R_lower ho_ HLW9.out)
      have HC9 := Aside0.mk hC_
      clear x0_ x1_ x2_
      replace HBR := Aside0.mk (below_step HBR.out hb_)
      replace HB := Aside0.mk (below_step HB.out hb_)
      replace BK2 := Aside0.mk (blk_below BK2.out hb_)
      replace BK9 := Aside0.mk (blk_below BK9.out hb_)
      replace BK12 := Aside0.mk (BK12.out.below hb_)
      clear ho_ hC_ hb_ HLW9
      go_upto_region 21 with fail
      by_cases he : e9 = 0
      rotate_left
      · skip
        have hz : (e9 != 0) = true := by simpa using he
        have he2 := Aside0.mk he
        clear he
        obtain rfl : q = (zeroE, e9) := by rw [← HQ.out]; unfold refEnt; simp only; rw [HN.out, if_neg (by simp), H6.out, if_neg (by simp [z6_]), HE8.out, if_neg (by simp [z8_]), HR8.out, HO9.out, if_pos he2.out]
        have d0_ := (blk_cell BK2.out 0).trans (rfl : _ = some (.int .i64 0 : Value))
        have d1_ := (blk_cell BK2.out 1).trans (rfl : _ = some (.int .i64 0 : Value))
        have d2_ := (blk_cell BK2.out 2).trans (rfl : _ = some (.int .i64 0 : Value))
        have d3_ := (blk_cell BK2.out 3).trans (rfl : _ = some (.int .i64 0 : Value))
        have d4_ := (blk_cell BK2.out 4).trans (rfl : _ = some (.int .i64 0 : Value))
        have d5_ := (blk_cell BK2.out 5).trans (rfl : _ = some (.int .i64 0 : Value))
        have d6_ := (blk_cell BK2.out 6).trans (rfl : _ = some (.int .i64 0 : Value))
        have d7_ := (blk_cell BK2.out 7).trans (rfl : _ = some (.int .i64 0 : Value))
        have d8_ := (blk_cell BK2.out 8).trans (rfl : _ = some (.bool false : Value))
        have d9_ := (blk_cell BK2.out 9).trans (rfl : _ = some (.slice none 0 0 : Value))
        have d10_ := (blk_cell BK2.out 10).trans (rfl : _ = some (.slice none 0 0 : Value))
        have k0_ := blk_frozen BK2.out 0
        have k1_ := blk_frozen BK2.out 1
        have k2_ := blk_frozen BK2.out 2
        have k3_ := blk_frozen BK2.out 3
        have k4_ := blk_frozen BK2.out 4
        have k5_ := blk_frozen BK2.out 5
        have k6_ := blk_frozen BK2.out 6
        have k7_ := blk_frozen BK2.out 7
        have k8_ := blk_frozen BK2.out 8
        have k9_ := blk_frozen BK2.out 9
        have k10_ := blk_frozen BK2.out 10
        go_wp2
        clear d0_ k0_ d1_ k1_ d2_ k2_ d3_ k3_ d4_ k4_ d5_ k5_ d6_ k6_ d7_ k7_ d8_ k8_ d9_ k9_ d10_ k10_
        obtain ⟨w99, hw_, B_, G_⟩ := B_fin (w := w10) BK2.out HB.out HL2.out (.int .i64 0) (.int .i64 0) (.int .i64 0) (.int .i64 0) (.int .i64 0) (.int .i64 0) (.int .i64 0) (.int .i64 0) (.bool false) (.slice none 0 0) (.slice none 0 0)
        rw [← hw_] at ⊢
        clear hw_
        have p0_ : w99.cell? ⟨g2, 0, none⟩ = some (.int .i64 0) := (blk_cell B_ 0).trans rfl
        have p1_ : w99.cell? ⟨g2, 1, none⟩ = some (.int .i64 0) := (blk_cell B_ 1).trans rfl
        have p2_ : w99.cell? ⟨g2, 2, none⟩ = some (.int .i64 0) := (blk_cell B_ 2).trans rfl
        have p3_ : w99.cell? ⟨g2, 3, none⟩ = some (.int .i64 0) := (blk_cell B_ 3).trans rfl
        have p4_ : w99.cell? ⟨g2, 4, none⟩ = some (.int .i64 0) := (blk_cell B_ 4).trans rfl
        have p5_ : w99.cell? ⟨g2, 5, none⟩ = some (.int .i64 0) := (blk_cell B_ 5).trans rfl
        have p6_ : w99.cell? ⟨g2, 6, none⟩ = some (.int .i64 0) := (blk_cell B_ 6).trans rfl
        have p7_ : w99.cell? ⟨g2, 7, none⟩ = some (.int .i64 0) := (blk_cell B_ 7).trans rfl
        have p8_ : w99.cell? ⟨g2, 8, none⟩ = some (.bool false) := (blk_cell B_ 8).trans rfl
        have p9_ : w99.cell? ⟨g2, 9, none⟩ = some (.slice none 0 0) := (blk_cell B_ 9).trans rfl
        have p10_ : w99.cell? ⟨g2, 10, none⟩ = some (.slice none 0 0) := (blk_cell B_ 10).trans rfl
        refine bodyPost_ret (v := .tuple #[.agg #[.int .i64 0, .int .i64 0, .int .i64 0, .int .i64 0, .int .i64 0, .int .i64 0, .int .i64 0, .int .i64 0, .bool false, .slice none 0 0, .slice none 0 0], .int .i64 e9]) (by simp [results, Try.results19, go_sem, p0_, p1_, p2_, p3_, p4_, p5_, p6_, p7_, p8_, p9_, p10_]) rfl ?_
        exact ⟨.slice none 0 0, .slice none 0 0, rfl, Kd.R_nil _ _ _ _ _, Kd.R_nil _ _ _ _ _, G_⟩
      have z9_ := he
      have hz9 : (e9 != 0) = false := by simpa using he
      clear he
      have HY9 := Aside0.mk (HIS.out z9_).2.1
      clear HIS
      have HLW9 := Aside0.mk HB.out.size
      obtain ⟨o10, HO10⟩ : ∃ q, Aside0 (rdL 256 r9 = q) := ⟨_, ⟨rfl⟩⟩
      go_wp2_with fail
      refine (refints wr A9 c9 r9 256 _ HC9.out hc9 HY9.out HBR.out (by omega) (by omega) (by omega)).mono ?_
      rintro e w11 ⟨v10, A10, c10, he_, ho_, hC_, hc10, hb_⟩
      rw [HO10.out] at he_ ho_ hC_ hc10
      subst he_
      obtain ⟨l10, e10, r10⟩ := o10
      simp only at ho_ hC_ hc10
      obtain ⟨B10, d10, rfl⟩ := Kd.R_slice ho_
      have HV10 := Aside0.mk (Kd.R_lower ho_ HLW9.out)
      replace HV9 := Aside0.mk (Kd.R_below HV9.out hb_)
      replace HBR := Aside0.mk (below_step HBR.out hb_)
      replace HB := Aside0.mk (below_step HB.out hb_)
      replace BK2 := Aside0.mk (blk_below BK2.out hb_)
      replace BK9 := Aside0.mk (blk_below BK9.out hb_)
      replace BK12 := Aside0.mk (BK12.out.below hb_)
      clear ho_ hC_ hb_ HLW9
      go_upto_region 24 with fail
      by_cases he : e10 = 0
      rotate_left
      · skip
        have hz : (e10 != 0) = true := by simpa using he
        have he2 := Aside0.mk he
        clear he
        obtain rfl : q = (zeroE, e10) := by rw [← HQ.out]; unfold refEnt; simp only; rw [HN.out, if_neg (by simp), H6.out, if_neg (by simp [z6_]), HE8.out, if_neg (by simp [z8_]), HR8.out, HO9.out, if_neg (by simp [z9_]), HO10.out, if_pos he2.out]
        have d0_ := (blk_cell BK2.out 0).trans (rfl : _ = some (.int .i64 0 : Value))
        have d1_ := (blk_cell BK2.out 1).trans (rfl : _ = some (.int .i64 0 : Value))
        have d2_ := (blk_cell BK2.out 2).trans (rfl : _ = some (.int .i64 0 : Value))
        have d3_ := (blk_cell BK2.out 3).trans (rfl : _ = some (.int .i64 0 : Value))
        have d4_ := (blk_cell BK2.out 4).trans (rfl : _ = some (.int .i64 0 : Value))
        have d5_ := (blk_cell BK2.out 5).trans (rfl : _ = some (.int .i64 0 : Value))
        have d6_ := (blk_cell BK2.out 6).trans (rfl : _ = some (.int .i64 0 : Value))
        have d7_ := (blk_cell BK2.out 7).trans (rfl : _ = some (.int .i64 0 : Value))
        have d8_ := (blk_cell BK2.out 8).trans (rfl : _ = some (.bool false : Value))
        have d9_ := (blk_cell BK2.out 9).trans (rfl : _ = some (.slice none 0 0 : Value))
        have d10_ := (blk_cell BK2.out 10).trans (rfl : _ = some (.slice none 0 0 : Value))
        have k0_ := blk_frozen BK2.out 0
        have k1_ := blk_frozen BK2.out 1
        have k2_ := blk_frozen BK2.out 2
        have k3_ := blk_frozen BK2.out 3
        have k4_ := blk_frozen BK2.out 4
        have k5_ := blk_frozen BK2.out 5
        have k6_ := blk_frozen BK2.out 6
        have k7_ := blk_frozen BK2.out 7
        have k8_ := blk_frozen BK2.out 8
        have k9_ := blk_frozen BK2.out 9
        have k10_ := blk_frozen BK2.out 10
        go_wp2
        clear d0_ k0_ d1_ k1_ d2_ k2_ d3_ k3_ d4_ k4_ d5_ k5_ d6_ k6_ d7_ k7_ d8_ k8_ d9_ k9_ d10_ k10_
        obtain ⟨w99, hw_, B_, G_⟩ := B_fin (w := w11) BK2.out HB.out HL2.out (.int .i64 0) (.int .i64 0) (.int .i64 0) (.int .i64 0) (.int .i64 0) (.int .i64 0) (.int .i64 0) (.int .i64 0) (.bool false) (.slice none 0 0) (.slice none 0 0)
        rw [← hw_] at ⊢
        clear hw_
        have p0_ : w99.cell? ⟨g2, 0, none⟩ = some (.int .i64 0) := (blk_cell B_ 0).trans rfl
        have p1_ : w99.cell? ⟨g2, 1, none⟩ = some (.int .i64 0) := (blk_cell B_ 1).trans rfl
        have p2_ : w99.cell? ⟨g2, 2, none⟩ = some (.int .i64 0) := (blk_cell B_ 2).trans rfl
        have p3_ : w99.cell? ⟨g2, 3, none⟩ = some (.int .i64 0) := (blk_cell B_ 3).trans rfl
        have p4_ : w99.cell? ⟨g2, 4, none⟩ = some (.int .i64 0) := (blk_cell B_ 4).trans rfl
        have p5_ : w99.cell? ⟨g2, 5, none⟩ = some (.int .i64 0) := (blk_cell B_ 5).trans rfl
        have p6_ : w99.cell? ⟨g2, 6, none⟩ = some (.int .i64 0) := (blk_cell B_ 6).trans rfl
        have p7_ : w99.cell? ⟨g2, 7, none⟩ = some (.int .i64 0) := (blk_cell B_ 7).trans rfl
        have p8_ : w99.cell? ⟨g2, 8, none⟩ = some (.bool false) := (blk_cell B_ 8).trans rfl
        have p9_ : w99.cell? ⟨g2, 9, none⟩ = some (.slice none 0 0) := (blk_cell B_ 9).trans rfl
        have p10_ : w99.cell? ⟨g2, 10, none⟩ = some (.slice none 0 0) := (blk_cell B_ 10).trans rfl
        refine bodyPost_ret (v := .tuple #[.agg #[.int .i64 0, .int .i64 0, .int .i64 0, .int .i64 0, .int .i64 0, .int .i64 0, .int .i64 0, .int .i64 0, .bool false, .slice none 0 0, .slice none 0 0], .int .i64 e10]) (by simp [results, Try.results19, go_sem, p0_, p1_, p2_, p3_, p4_, p5_, p6_, p7_, p8_, p9_, p10_]) rfl ?_
        exact ⟨.slice none 0 0, .slice none 0 0, rfl, Kd.R_nil _ _ _ _ _, Kd.R_nil _ _ _ _ _, G_⟩
      have z10_ := he
      have hz10 : (e10 != 0) = false := by simpa using he
      clear he
      obtain ⟨bd, HBD⟩ : ∃ s, Aside0 ((n8 == 1) = s) := ⟨_, ⟨rfl⟩⟩
      obtain ⟨kk0, kk1, kk2, kk3, kk4⟩ := HK.out
      have kc0 := Aside0.mk (cell_below HBR.out kk0)
      have kc1 := Aside0.mk (cell_below HBR.out kk1)
      have kc2 := Aside0.mk (cell_below HBR.out kk2)
      have kc3 := Aside0.mk (cell_below HBR.out kk3)
      have kc4 := Aside0.mk (cell_below HBR.out kk4)
      clear kk0 kk1 kk2 kk3 kk4
      go_wp2_with fail
      refine start_ (n := 24) (S := fun w' => Below w11.heap.size w11 w') (ds := []) #[false, false, false, false, false, false, false, false, false, false, false, false, false, false, false, false, false, false, false, false, false, false, false, false] (by kernel_rfl) rfl rfl ((below_drew (Below.refl _ _))) (fun hHeld => ?_)
      refine pure_ (i := 0) (N := some 84) (v := ?_) (a' := ?_) #[true, false, false, false, false, false, false, false, false, false, false, false, false, false, false, false, false, false, false, false, false, false, false, false] rfl rfl (by kernel_rfl) (fun _ _ _ h => h) (Or.inl ⟨by rfl, ?_⟩) ?_ ?_
      rotate_left
      · intro w'
        go_simp
        with_reducible rfl
      rotate_left
      · simp only [Act.put, List.setIfInBounds_toArray, List.set_cons_zero, List.set_cons_succ, i64_w, i32_w]
        rfl
      refine pure_ (i := 1) (N := some 85) (v := ?_) (a' := ?_) #[true, true, false, false, false, false, false, false, false, false, false, false, false, false, false, false, false, false, false, false, false, false, false, false] rfl rfl (by kernel_rfl) (fun _ _ _ h => h) (Or.inl ⟨by rfl, ?_⟩) ?_ ?_
      rotate_left
      · intro w'
        go_simp
        with_reducible rfl
      rotate_left
      · simp only [Act.put, List.setIfInBounds_toArray, List.set_cons_zero, List.set_cons_succ, i64_w, i32_w]
        rfl
      refine pure_ (i := 3) (N := some 87) (v := ?_) (a' := ?_) #[true, true, false, true, false, false, false, false, false, false, false, false, false, false, false, false, false, false, false, false, false, false, false, false] rfl rfl (by kernel_rfl) (fun _ _ _ h => h) (Or.inl ⟨by rfl, ?_⟩) ?_ ?_
      rotate_left
      · intro w'
        go_simp
        with_reducible rfl
      rotate_left
      · simp only [Act.put, List.setIfInBounds_toArray, List.set_cons_zero, List.set_cons_succ, i64_w, i32_w]
        rfl
      refine pure_ (i := 4) (N := some 88) (v := ?_) (a' := ?_) #[true, true, false, true, true, false, false, false, false, false, false, false, false, false, false, false, false, false, false, false, false, false, false, false] rfl rfl (by kernel_rfl) (fun _ _ _ h => h) (Or.inl ⟨by rfl, ?_⟩) ?_ ?_
      rotate_left
      · intro w'
        go_simp
        with_reducible rfl
      rotate_left
      · simp only [Act.put, List.setIfInBounds_toArray, List.set_cons_zero, List.set_cons_succ, i64_w, i32_w]
        rfl
      refine pure_ (i := 6) (N := some 90) (v := ?_) (a' := ?_) #[true, true, false, true, true, false, true, false, false, false, false, false, false, false, false, false, false, false, false, false, false, false, false, false] rfl rfl (by kernel_rfl) (fun _ _ _ h => h) (Or.inl ⟨by rfl, ?_⟩) ?_ ?_
      rotate_left
      · intro w'
        go_simp
        with_reducible rfl
      rotate_left
      · simp only [Act.put, List.setIfInBounds_toArray, List.set_cons_zero, List.set_cons_succ, i64_w, i32_w]
        rfl
      refine pure_ (i := 7) (N := some 91) (v := ?_) (a' := ?_) #[true, true, false, true, true, false, true, true, false, false, false, false, false, false, false, false, false, false, false, false, false, false, false, false] rfl rfl (by kernel_rfl) (fun _ _ _ h => h) (Or.inl ⟨by rfl, ?_⟩) ?_ ?_
      rotate_left
      · intro w'
        go_simp
        with_reducible rfl
      rotate_left
      · simp only [Act.put, List.setIfInBounds_toArray, List.set_cons_zero, List.set_cons_succ, i64_w, i32_w]
        rfl
      refine pure_ (i := 9) (N := some 93) (v := ?_) (a' := ?_) #[true, true, false, true, true, false, true, true, false, true, false, false, false, false, false, false, false, false, false, false, false, false, false, false] rfl rfl (by kernel_rfl) (fun _ _ _ h => h) (Or.inl ⟨by rfl, ?_⟩) ?_ ?_
      rotate_left
      · intro w'
        go_simp
        with_reducible rfl
      rotate_left
      · simp only [Act.put, List.setIfInBounds_toArray, List.set_cons_zero, List.set_cons_succ, i64_w, i32_w]
        rfl
      refine pure_ (i := 10) (N := some 94) (v := ?_) (a' := ?_) #[true, true, false, true, true, false, true, true, false, true, true, false, false, false, false, false, false, false, false, false, false, false, false, false] rfl rfl (by kernel_rfl) (fun _ _ _ h => h) (Or.inl ⟨by rfl, ?_⟩) ?_ ?_
      rotate_left
      · intro w'
        go_simp
        with_reducible rfl
      rotate_left
      · simp only [Act.put, List.setIfInBounds_toArray, List.set_cons_zero, List.set_cons_succ, i64_w, i32_w]
        rfl
      refine pure_ (i := 12) (N := some 96) (v := ?_) (a' := ?_) #[true, true, false, true, true, false, true, true, false, true, true, false, true, false, false, false, false, false, false, false, false, false, false, false] rfl rfl (by kernel_rfl) (fun _ _ _ h => h) (Or.inl ⟨by rfl, ?_⟩) ?_ ?_
      rotate_left
      · intro w'
        go_simp
        with_reducible rfl
      rotate_left
      · simp only [Act.put, List.setIfInBounds_toArray, List.set_cons_zero, List.set_cons_succ, i64_w, i32_w]
        rfl
      refine pure_ (i := 13) (N := some 97) (v := ?_) (a' := ?_) #[true, true, false, true, true, false, true, true, false, true, true, false, true, true, false, false, false, false, false, false, false, false, false, false] rfl rfl (by kernel_rfl) (fun _ _ _ h => h) (Or.inl ⟨by rfl, ?_⟩) ?_ ?_
      rotate_left
      · intro w'
        go_simp
        with_reducible rfl
      rotate_left
      · simp only [Act.put, List.setIfInBounds_toArray, List.set_cons_zero, List.set_cons_succ, i64_w, i32_w]
        rfl
      refine pure_ (i := 16) (N := some 100) (v := ?_) (a' := ?_) #[true, true, false, true, true, false, true, true, false, true, true, false, true, true, false, false, true, false, false, false, false, false, false, false] rfl rfl (by kernel_rfl) (fun _ _ _ h => h) (Or.inl ⟨by rfl, ?_⟩) ?_ ?_
      rotate_left
      · intro w'
        go_simp
        with_reducible rfl
      rotate_left
      · simp only [Act.put, List.setIfInBounds_toArray, List.set_cons_zero, List.set_cons_succ, i64_w, i32_w]
        rfl
      refine pure_ (i := 19) (N := some 103) (v := ?_) (a' := ?_) #[true, true, false, true, true, false, true, true, false, true, true, false, true, true, false, false, true, false, false, true, false, false, false, false] rfl rfl (by kernel_rfl) (fun _ _ _ h => h) (Or.inl ⟨by rfl, ?_⟩) ?_ ?_
      rotate_left
      · intro w'
        go_simp
        with_reducible rfl
      rotate_left
      · simp only [Act.put, List.setIfInBounds_toArray, List.set_cons_zero, List.set_cons_succ, i64_w, i32_w]
        rfl
      refine pure_ (i := 20) (N := some 104) (v := ?_) (a' := ?_) #[true, true, false, true, true, false, true, true, false, true, true, false, true, true, false, false, true, false, false, true, true, false, false, false] rfl rfl (by kernel_rfl) (fun _ _ _ h => h) (Or.inl ⟨by rfl, ?_⟩) ?_ ?_
      rotate_left
      · intro w'
        go_simp
        with_reducible rfl
      rotate_left
      · simp only [Act.put, List.setIfInBounds_toArray, List.set_cons_zero, List.set_cons_succ, i64_w, i32_w]
        rfl
      refine take_ (i := 2) (N := some 86) (v := ?_) (a' := ?_) #[true, true, true, true, true, false, true, true, false, true, true, false, true, true, false, false, true, false, false, true, true, false, false, false] rfl rfl (by kernel_rfl) (fun _ _ _ h => h) (Or.inl ⟨by rfl, ?_⟩) hHeld ?_ ?_
      rotate_left
      · intro w' hS
        have c_ := cell_below hS kc0.out
        go_simp
        with_reducible rfl
      rotate_left
      · simp only [Act.put, List.setIfInBounds_toArray, List.set_cons_zero, List.set_cons_succ, i64_w, i32_w]
        rfl
      refine take_ (i := 5) (N := some 89) (v := ?_) (a' := ?_) #[true, true, true, true, true, true, true, true, false, true, true, false, true, true, false, false, true, false, false, true, true, false, false, false] rfl rfl (by kernel_rfl) (fun _ _ _ h => h) (Or.inl ⟨by rfl, ?_⟩) hHeld ?_ ?_
      rotate_left
      · intro w' hS
        have c_ := cell_below hS kc1.out
        go_simp
        with_reducible rfl
      rotate_left
      · simp only [Act.put, List.setIfInBounds_toArray, List.set_cons_zero, List.set_cons_succ, i64_w, i32_w]
        rfl
      refine take_ (i := 8) (N := some 92) (v := ?_) (a' := ?_) #[true, true, true, true, true, true, true, true, true, true, true, false, true, true, false, false, true, false, false, true, true, false, false, false] rfl rfl (by kernel_rfl) (fun _ _ _ h => h) (Or.inl ⟨by rfl, ?_⟩) hHeld ?_ ?_
      rotate_left
      · intro w' hS
        have c_ := cell_below hS kc2.out
        go_simp
        with_reducible rfl
      rotate_left
      · simp only [Act.put, List.setIfInBounds_toArray, List.set_cons_zero, List.set_cons_succ, i64_w, i32_w]
        rfl
      refine take_ (i := 11) (N := some 95) (v := ?_) (a' := ?_) #[true, true, true, true, true, true, true, true, true, true, true, true, true, true, false, false, true, false, false, true, true, false, false, false] rfl rfl (by kernel_rfl) (fun _ _ _ h => h) (Or.inl ⟨by rfl, ?_⟩) hHeld ?_ ?_
      rotate_left
      · intro w' hS
        have c_ := cell_below hS kc3.out
        go_simp
        with_reducible rfl
      rotate_left
      · simp only [Act.put, List.setIfInBounds_toArray, List.set_cons_zero, List.set_cons_succ, i64_w, i32_w]
        rfl
      refine take_ (i := 14) (N := some 98) (v := ?_) (a' := ?_) #[true, true, true, true, true, true, true, true, true, true, true, true, true, true, true, false, true, false, false, true, true, false, false, false] rfl rfl (by kernel_rfl) (fun _ _ _ h => h) (Or.inl ⟨by rfl, ?_⟩) hHeld ?_ ?_
      rotate_left
      · intro w' hS
        have c_ := cell_below hS kc4.out
        go_simp
        with_reducible rfl
      rotate_left
      · simp only [Act.put, List.setIfInBounds_toArray, List.set_cons_zero, List.set_cons_succ, i64_w, i32_w]
        rfl
      refine take_ (i := 15) (N := some 99) (v := ?_) (a' := ?_) #[true, true, true, true, true, true, true, true, true, true, true, true, true, true, true, true, true, false, false, true, true, false, false, false] rfl rfl (by kernel_rfl) (fun _ _ _ h => h) (Or.inl ⟨by rfl, ?_⟩) hHeld ?_ ?_
      rotate_left
      · intro w' hS
        have c0_ := cell_below hS ((blk_cell BK9.out 0).trans (rfl : _ = some (.int .i64 y0 : Value)))
        have c1_ := cell_below hS ((blk_cell BK9.out 1).trans (rfl : _ = some (.int .i64 y1 : Value)))
        have c2_ := cell_below hS ((blk_cell BK9.out 2).trans (rfl : _ = some (.int .i64 y2 : Value)))
        go_simp
        with_reducible rfl
      rotate_left
      · simp only [Act.put, List.setIfInBounds_toArray, List.set_cons_zero, List.set_cons_succ, i64_w, i32_w]
        rfl
      refine take_ (i := 17) (N := some 101) (v := ?_) (a' := ?_) #[true, true, true, true, true, true, true, true, true, true, true, true, true, true, true, true, true, true, false, true, true, false, false, false] rfl rfl (by kernel_rfl) (fun _ _ _ h => h) (Or.inl ⟨by rfl, ?_⟩) hHeld ?_ ?_
      rotate_left
      · intro w' hS
        have c_ := cell_below hS BK12.out.cells.1
        go_simp
        with_reducible rfl
      rotate_left
      · simp only [Act.put, List.setIfInBounds_toArray, List.set_cons_zero, List.set_cons_succ, i64_w, i32_w]
        rfl
      refine pure_ (i := 18) (N := some 102) (v := ?_) (a' := ?_) #[true, true, true, true, true, true, true, true, true, true, true, true, true, true, true, true, true, true, true, true, true, false, false, false] rfl rfl (by kernel_rfl) (fun _ _ _ h => h) (Or.inl ⟨by rfl, ?_⟩) ?_ ?_
      rotate_left
      · intro w'
        go_simp
        with_reducible rfl
      rotate_left
      · simp only [Act.put, List.setIfInBounds_toArray, List.set_cons_zero, List.set_cons_succ, i64_w, i32_w]
        rfl
      refine pure_ (i := 21) (N := some 105) (v := ?_) (a' := ?_) #[true, true, true, true, true, true, true, true, true, true, true, true, true, true, true, true, true, true, true, true, true, true, false, false] rfl rfl (by kernel_rfl) (fun _ _ _ h => h) (Or.inl ⟨by rfl, ?_⟩) ?_ ?_
      rotate_left
      · intro w'
        go_simp
        with_reducible rfl
      rotate_left
      · simp only [Act.put, List.setIfInBounds_toArray, List.set_cons_zero, List.set_cons_succ, i64_w, i32_w]
        rfl
      refine one_ (i := 22) (N := some 19) #[true, true, true, true, true, true, true, true, true, true, true, true, true, true, true, true, true, true, true, true, true, true, true, false] rfl rfl (by kernel_rfl) (by simp) (fun K hK => ?_)
      refine value_ (w1 := w11.drew.alloc (.cells #[.int .i64 0, .int .i64 0, .int .i64 0, .int .i64 0, .int .i64 0, .int .i64 0, .int .i64 0, .int .i64 0, .bool false, .slice none 0 0, .slice none 0 0] 26)) (v := .pointer (some ⟨w11.drew.heap.size, 0, none⟩)) (by rfl) rfl (by first | (go_simp; done) | (go_simp; rfl)) ?_
      refine hK.out _ _ (below_alloc (below_drew (Below.refl _ _)) _) (fun hHeld => ?_)
      clear hK K
      refine norm_ (a' := ?_) ?_ ?_
      rotate_left
      · show Act.put _ (some 19) _ = _
        simp only [Act.put, List.setIfInBounds_toArray, List.set_cons_zero, List.set_cons_succ, i64_w, i32_w]
        rfl
      have BK19 := Aside0.mk (heap_alloc_new w11.drew (.cells #[.int .i64 0, .int .i64 0, .int .i64 0, .int .i64 0, .int .i64 0, .int .i64 0, .int .i64 0, .int .i64 0, .bool false, .slice none 0 0, .slice none 0 0] 26))
      generalize w11.drew.alloc (.cells #[.int .i64 0, .int .i64 0, .int .i64 0, .int .i64 0, .int .i64 0, .int .i64 0, .int .i64 0, .int .i64 0, .bool false, .slice none 0 0, .slice none 0 0] 26) = w12 at BK19 hHeld ⊢
      have HL19 : Aside0 (w11.heap.size ≤ w11.drew.heap.size) := ⟨Nat.le_refl _⟩
      generalize w11.drew.heap.size = g19 at BK19 HL19 ⊢
      refine one_ (i := 23) (N := none) #[true, true, true, true, true, true, true, true, true, true, true, true, true, true, true, true, true, true, true, true, true, true, true, true] rfl rfl (by kernel_rfl) (by simp) (fun K hK => ?_)
      have d0_ := (blk_cell BK19.out 0).trans (rfl : _ = some (.int .i64 0 : Value))
      have d1_ := (blk_cell BK19.out 1).trans (rfl : _ = some (.int .i64 0 : Value))
      have d2_ := (blk_cell BK19.out 2).trans (rfl : _ = some (.int .i64 0 : Value))
      have d3_ := (blk_cell BK19.out 3).trans (rfl : _ = some (.int .i64 0 : Value))
      have d4_ := (blk_cell BK19.out 4).trans (rfl : _ = some (.int .i64 0 : Value))
      have d5_ := (blk_cell BK19.out 5).trans (rfl : _ = some (.int .i64 0 : Value))
      have d6_ := (blk_cell BK19.out 6).trans (rfl : _ = some (.int .i64 0 : Value))
      have d7_ := (blk_cell BK19.out 7).trans (rfl : _ = some (.int .i64 0 : Value))
      have d8_ := (blk_cell BK19.out 8).trans (rfl : _ = some (.bool false : Value))
      have d9_ := (blk_cell BK19.out 9).trans (rfl : _ = some (.slice none 0 0 : Value))
      have d10_ := (blk_cell BK19.out 10).trans (rfl : _ = some (.slice none 0 0 : Value))
      have k0_ := blk_frozen BK19.out 0
      have k1_ := blk_frozen BK19.out 1
      have k2_ := blk_frozen BK19.out 2
      have k3_ := blk_frozen BK19.out 3
      have k4_ := blk_frozen BK19.out 4
      have k5_ := blk_frozen BK19.out 5
      have k6_ := blk_frozen BK19.out 6
      have k7_ := blk_frozen BK19.out 7
      have k8_ := blk_frozen BK19.out 8
      have k9_ := blk_frozen BK19.out 9
      have k10_ := blk_frozen BK19.out 10
      rw [HBD.out]
      have G9_ : Below w11.heap.size w11 ((((((((((((w12).setCell ⟨g19, 0, none⟩ (.int .i64 v0)).setCell ⟨g19, 1, none⟩ (.int .i64 v1)).setCell ⟨g19, 2, none⟩ (.int .i64 v2)).setCell ⟨g19, 3, none⟩ (.int .i64 v3)).setCell ⟨g19, 4, none⟩ (.int .i64 v4)).setCell ⟨g19, 5, none⟩ (.int .i64 y0)).setCell ⟨g19, 6, none⟩ (.int .i64 y1)).setCell ⟨g19, 7, none⟩ (.int .i64 y2)).setCell ⟨g19, 8, none⟩ (.bool bd)).setCell ⟨g19, 9, none⟩ (.slice B9 l9.length d9)).setCell ⟨g19, 10, none⟩ (.slice B10 l10.length d10)) ∧ ((((((((((((w12).setCell ⟨g19, 0, none⟩ (.int .i64 v0)).setCell ⟨g19, 1, none⟩ (.int .i64 v1)).setCell ⟨g19, 2, none⟩ (.int .i64 v2)).setCell ⟨g19, 3, none⟩ (.int .i64 v3)).setCell ⟨g19, 4, none⟩ (.int .i64 v4)).setCell ⟨g19, 5, none⟩ (.int .i64 y0)).setCell ⟨g19, 6, none⟩ (.int .i64 y1)).setCell ⟨g19, 7, none⟩ (.int .i64 y2)).setCell ⟨g19, 8, none⟩ (.bool bd)).setCell ⟨g19, 9, none⟩ (.slice B9 l9.length d9)).setCell ⟨g19, 10, none⟩ (.slice B10 l10.length d10)).heap[g19]? = some (.cells #[.int .i64 v0, .int .i64 v1, .int .i64 v2, .int .i64 v3, .int .i64 v4, .int .i64 y0, .int .i64 y1, .int .i64 y2, .bool bd, .slice B9 l9.length d9, .slice B10 l10.length d10] 26 (0, 0)) := by obtain ⟨w_, rfl, B_, G_⟩ := B_fin BK19.out hHeld HL19.out (.int .i64 v0) (.int .i64 v1) (.int .i64 v2) (.int .i64 v3) (.int .i64 v4) (.int .i64 y0) (.int .i64 y1) (.int .i64 y2) (.bool bd) (.slice B9 l9.length d9) (.slice B10 l10.length d10); exact ⟨G_, B_⟩
      refine skip_ (w1 := (((((((((((w12).setCell ⟨g19, 0, none⟩ (.int .i64 v0)).setCell ⟨g19, 1, none⟩ (.int .i64 v1)).setCell ⟨g19, 2, none⟩ (.int .i64 v2)).setCell ⟨g19, 3, none⟩ (.int .i64 v3)).setCell ⟨g19, 4, none⟩ (.int .i64 v4)).setCell ⟨g19, 5, none⟩ (.int .i64 y0)).setCell ⟨g19, 6, none⟩ (.int .i64 y1)).setCell ⟨g19, 7, none⟩ (.int .i64 y2)).setCell ⟨g19, 8, none⟩ (.bool bd)).setCell ⟨g19, 9, none⟩ (.slice B9 l9.length d9)).setCell ⟨g19, 10, none⟩ (.slice B10 l10.length d10)) (by rfl) rfl (by go_simp; done) ?_
      refine hK.out _ _ (G9_.1) (fun hHeld => ?_)
      clear hK K
      clear d0_ k0_ d1_ k1_ d2_ k2_ d3_ k3_ d4_ k4_ d5_ k5_ d6_ k6_ d7_ k7_ d8_ k8_ d9_ k9_ d10_ k10_
      have B9_ := G9_.2
      generalize (((((((((((w12).setCell ⟨g19, 0, none⟩ (.int .i64 v0)).setCell ⟨g19, 1, none⟩ (.int .i64 v1)).setCell ⟨g19, 2, none⟩ (.int .i64 v2)).setCell ⟨g19, 3, none⟩ (.int .i64 v3)).setCell ⟨g19, 4, none⟩ (.int .i64 v4)).setCell ⟨g19, 5, none⟩ (.int .i64 y0)).setCell ⟨g19, 6, none⟩ (.int .i64 y1)).setCell ⟨g19, 7, none⟩ (.int .i64 y2)).setCell ⟨g19, 8, none⟩ (.bool bd)).setCell ⟨g19, 9, none⟩ (.slice B9 l9.length d9)).setCell ⟨g19, 10, none⟩ (.slice B10 l10.length d10) = w13 at B9_ hHeld ⊢
      clear BK19 HL19 G9_
      have BK19 := Aside0.mk B9_
      have hb_ := hHeld
      clear B9_ hHeld
      refine done_ (by kernel_rfl) ?_
      replace HB := Aside0.mk (below_step HB.out hb_)
      replace BK2 := Aside0.mk (blk_below BK2.out hb_)
      replace BK9 := Aside0.mk (blk_below BK9.out hb_)
      replace BK12 := Aside0.mk (BK12.out.below hb_)
      replace HV9 := Aside0.mk (Kd.R_below HV9.out hb_)
      replace HV10 := Aside0.mk (Kd.R_below HV10.out hb_)
      clear hb_ HBR
      obtain ⟨m, HM⟩ : ∃ m, Aside0 (r10.length = m) := ⟨_, ⟨rfl⟩⟩
      rw [HM.out]
      have xg_ := BK12.out.cells.1
      by_cases hm : m = 0
      · have hmz : ((m : Int) != 0) = false := by simp; omega
        by_cases hn : 1 < n8
        · have hnz : decide (1 < n8) = true := by simpa using hn
          obtain rfl : q = (zeroE, 5) := by rw [← HQ.out]; unfold refEnt; simp only; rw [HN.out, if_neg (by simp), H6.out, if_neg (by simp [z6_]), HE8.out, if_neg (by simp [z8_]), HR8.out, HO9.out, if_neg (by simp [z9_]), HO10.out, if_neg (by simp [z10_]), if_pos (.inr (.inl (by rw [HN8.out]; exact hn)))]
          have d0_ := (blk_cell BK2.out 0).trans (rfl : _ = some (.int .i64 0 : Value))
          have d1_ := (blk_cell BK2.out 1).trans (rfl : _ = some (.int .i64 0 : Value))
          have d2_ := (blk_cell BK2.out 2).trans (rfl : _ = some (.int .i64 0 : Value))
          have d3_ := (blk_cell BK2.out 3).trans (rfl : _ = some (.int .i64 0 : Value))
          have d4_ := (blk_cell BK2.out 4).trans (rfl : _ = some (.int .i64 0 : Value))
          have d5_ := (blk_cell BK2.out 5).trans (rfl : _ = some (.int .i64 0 : Value))
          have d6_ := (blk_cell BK2.out 6).trans (rfl : _ = some (.int .i64 0 : Value))
          have d7_ := (blk_cell BK2.out 7).trans (rfl : _ = some (.int .i64 0 : Value))
          have d8_ := (blk_cell BK2.out 8).trans (rfl : _ = some (.bool false : Value))
          have d9_ := (blk_cell BK2.out 9).trans (rfl : _ = some (.slice none 0 0 : Value))
          have d10_ := (blk_cell BK2.out 10).trans (rfl : _ = some (.slice none 0 0 : Value))
          have k0_ := blk_frozen BK2.out 0
          have k1_ := blk_frozen BK2.out 1
          have k2_ := blk_frozen BK2.out 2
          have k3_ := blk_frozen BK2.out 3
          have k4_ := blk_frozen BK2.out 4
          have k5_ := blk_frozen BK2.out 5
          have k6_ := blk_frozen BK2.out 6
          have k7_ := blk_frozen BK2.out 7
          have k8_ := blk_frozen BK2.out 8
          have k9_ := blk_frozen BK2.out 9
          have k10_ := blk_frozen BK2.out 10
          go_wp2
          clear d0_ k0_ d1_ k1_ d2_ k2_ d3_ k3_ d4_ k4_ d5_ k5_ d6_ k6_ d7_ k7_ d8_ k8_ d9_ k9_ d10_ k10_
          obtain ⟨w99, hw_, B_, G_⟩ := B_fin (w := w13) BK2.out HB.out HL2.out (.int .i64 0) (.int .i64 0) (.int .i64 0) (.int .i64 0) (.int .i64 0) (.int .i64 0) (.int .i64 0) (.int .i64 0) (.bool false) (.slice none 0 0) (.slice none 0 0)
          rw [← hw_] at ⊢
          clear hw_
          have p0_ : w99.cell? ⟨g2, 0, none⟩ = some (.int .i64 0) := (blk_cell B_ 0).trans rfl
          have p1_ : w99.cell? ⟨g2, 1, none⟩ = some (.int .i64 0) := (blk_cell B_ 1).trans rfl
          have p2_ : w99.cell? ⟨g2, 2, none⟩ = some (.int .i64 0) := (blk_cell B_ 2).trans rfl
          have p3_ : w99.cell? ⟨g2, 3, none⟩ = some (.int .i64 0) := (blk_cell B_ 3).trans rfl
          have p4_ : w99.cell? ⟨g2, 4, none⟩ = some (.int .i64 0) := (blk_cell B_ 4).trans rfl
          have p5_ : w99.cell? ⟨g2, 5, none⟩ = some (.int .i64 0) := (blk_cell B_ 5).trans rfl
          have p6_ : w99.cell? ⟨g2, 6, none⟩ = some (.int .i64 0) := (blk_cell B_ 6).trans rfl
          have p7_ : w99.cell? ⟨g2, 7, none⟩ = some (.int .i64 0) := (blk_cell B_ 7).trans rfl
          have p8_ : w99.cell? ⟨g2, 8, none⟩ = some (.bool false) := (blk_cell B_ 8).trans rfl
          have p9_ : w99.cell? ⟨g2, 9, none⟩ = some (.slice none 0 0) := (blk_cell B_ 9).trans rfl
          have p10_ : w99.cell? ⟨g2, 10, none⟩ = some (.slice none 0 0) := (blk_cell B_ 10).trans rfl
          refine bodyPost_ret (v := .tuple #[.agg #[.int .i64 0, .int .i64 0, .int .i64 0, .int .i64 0, .int .i64 0, .int .i64 0, .int .i64 0, .int .i64 0, .bool false, .slice none 0 0, .slice none 0 0], .int .i64 5]) (by simp [results, Try.results19, go_sem, p0_, p1_, p2_, p3_, p4_, p5_, p6_, p7_, p8_, p9_, p10_]) rfl ?_
          exact ⟨.slice none 0 0, .slice none 0 0, rfl, Kd.R_nil _ _ _ _ _, Kd.R_nil _ _ _ _ _, G_⟩
        · have hnz : decide (1 < n8) = false := by simpa using hn
          have x0_ := (blk_cell BK19.out 0).trans (rfl : _ = some (.int .i64 v0 : Value))
          have x1_ := (blk_cell BK19.out 1).trans (rfl : _ = some (.int .i64 v1 : Value))
          have x2_ := (blk_cell BK19.out 2).trans (rfl : _ = some (.int .i64 v2 : Value))
          have x3_ := (blk_cell BK19.out 3).trans (rfl : _ = some (.int .i64 v3 : Value))
          have x4_ := (blk_cell BK19.out 4).trans (rfl : _ = some (.int .i64 v4 : Value))
          have x5_ := (blk_cell BK19.out 5).trans (rfl : _ = some (.int .i64 y0 : Value))
          have x6_ := (blk_cell BK19.out 6).trans (rfl : _ = some (.int .i64 y1 : Value))
          have x7_ := (blk_cell BK19.out 7).trans (rfl : _ = some (.int .i64 y2 : Value))
          have x8_ := (blk_cell BK19.out 8).trans (rfl : _ = some (.bool bd : Value))
          have x9_ := (blk_cell BK19.out 9).trans (rfl : _ = some (.slice B9 l9.length d9 : Value))
          have x10_ := (blk_cell BK19.out 10).trans (rfl : _ = some (.slice B10 l10.length d10 : Value))
          go_wp2_with fail
          refine (ref_may (⟨v0, v1, v2, v3, v4, y0, y1, y2, bd, l9, l10⟩ : Ent) (by have := (Kd.R_reads' HV9.out).2.2.2.1; show l9.length < _; omega) (by have := (Kd.R_reads' HV10.out).2.2.2.1; show l10.length < _; omega) B9 d9 B10 d10 _ (Kd.R_reads' HV9.out).2.2 (Kd.R_reads' HV9.out).2.1 (Kd.R_reads' HV10.out).2.2 (Kd.R_reads' HV10.out).2.1).mono ?_
          rintro e w15 ⟨he_, hb_⟩
          obtain ⟨tb, HTB⟩ : ∃ tb, Aside0 (may (⟨v0, v1, v2, v3, v4, y0, y1, y2, bd, l9, l10⟩ : Ent) = tb) := ⟨_, ⟨rfl⟩⟩
          rw [HTB.out] at he_
          subst he_
          clear x0_ x1_ x2_ x3_ x4_ x5_ x6_ x7_ x8_ x9_ x10_
          replace HV9 := Aside0.mk (Kd.R_below HV9.out hb_)
          replace HV10 := Aside0.mk (Kd.R_below HV10.out hb_)
          replace BK2 := Aside0.mk (blk_below BK2.out hb_)
          replace BK19 := Aside0.mk (blk_below BK19.out hb_)
          replace HB := Aside0.mk (below_step HB.out hb_)
          clear hb_
          cases tb with
          | false =>
            obtain rfl : q = (zeroE, 5) := by rw [← HQ.out]; unfold refEnt; simp only; rw [HN.out, if_neg (by simp), H6.out, if_neg (by simp [z6_]), HE8.out, if_neg (by simp [z8_]), HR8.out, HO9.out, if_neg (by simp [z9_]), HO10.out, if_neg (by simp [z10_]), if_pos (.inr (.inr (by show may (⟨v0, v1, v2, v3, v4, y0, y1, y2, (rdU r6).1 == 1, l9, l10⟩ : Ent) = false; rw [HN8.out, HBD.out]; exact HTB.out)))]
            have d0_ := (blk_cell BK2.out 0).trans (rfl : _ = some (.int .i64 0 : Value))
            have d1_ := (blk_cell BK2.out 1).trans (rfl : _ = some (.int .i64 0 : Value))
            have d2_ := (blk_cell BK2.out 2).trans (rfl : _ = some (.int .i64 0 : Value))
            have d3_ := (blk_cell BK2.out 3).trans (rfl : _ = some (.int .i64 0 : Value))
            have d4_ := (blk_cell BK2.out 4).trans (rfl : _ = some (.int .i64 0 : Value))
            have d5_ := (blk_cell BK2.out 5).trans (rfl : _ = some (.int .i64 0 : Value))
            have d6_ := (blk_cell BK2.out 6).trans (rfl : _ = some (.int .i64 0 : Value))
            have d7_ := (blk_cell BK2.out 7).trans (rfl : _ = some (.int .i64 0 : Value))
            have d8_ := (blk_cell BK2.out 8).trans (rfl : _ = some (.bool false : Value))
            have d9_ := (blk_cell BK2.out 9).trans (rfl : _ = some (.slice none 0 0 : Value))
            have d10_ := (blk_cell BK2.out 10).trans (rfl : _ = some (.slice none 0 0 : Value))
            have k0_ := blk_frozen BK2.out 0
            have k1_ := blk_frozen BK2.out 1
            have k2_ := blk_frozen BK2.out 2
            have k3_ := blk_frozen BK2.out 3
            have k4_ := blk_frozen BK2.out 4
            have k5_ := blk_frozen BK2.out 5
            have k6_ := blk_frozen BK2.out 6
            have k7_ := blk_frozen BK2.out 7
            have k8_ := blk_frozen BK2.out 8
            have k9_ := blk_frozen BK2.out 9
            have k10_ := blk_frozen BK2.out 10
            go_wp2
            clear d0_ k0_ d1_ k1_ d2_ k2_ d3_ k3_ d4_ k4_ d5_ k5_ d6_ k6_ d7_ k7_ d8_ k8_ d9_ k9_ d10_ k10_
            obtain ⟨w99, hw_, B_, G_⟩ := B_fin (w := w15) BK2.out HB.out HL2.out (.int .i64 0) (.int .i64 0) (.int .i64 0) (.int .i64 0) (.int .i64 0) (.int .i64 0) (.int .i64 0) (.int .i64 0) (.bool false) (.slice none 0 0) (.slice none 0 0)
            rw [← hw_] at ⊢
            clear hw_
            have p0_ : w99.cell? ⟨g2, 0, none⟩ = some (.int .i64 0) := (blk_cell B_ 0).trans rfl
            have p1_ : w99.cell? ⟨g2, 1, none⟩ = some (.int .i64 0) := (blk_cell B_ 1).trans rfl
            have p2_ : w99.cell? ⟨g2, 2, none⟩ = some (.int .i64 0) := (blk_cell B_ 2).trans rfl
            have p3_ : w99.cell? ⟨g2, 3, none⟩ = some (.int .i64 0) := (blk_cell B_ 3).trans rfl
            have p4_ : w99.cell? ⟨g2, 4, none⟩ = some (.int .i64 0) := (blk_cell B_ 4).trans rfl
            have p5_ : w99.cell? ⟨g2, 5, none⟩ = some (.int .i64 0) := (blk_cell B_ 5).trans rfl
            have p6_ : w99.cell? ⟨g2, 6, none⟩ = some (.int .i64 0) := (blk_cell B_ 6).trans rfl
            have p7_ : w99.cell? ⟨g2, 7, none⟩ = some (.int .i64 0) := (blk_cell B_ 7).trans rfl
            have p8_ : w99.cell? ⟨g2, 8, none⟩ = some (.bool false) := (blk_cell B_ 8).trans rfl
            have p9_ : w99.cell? ⟨g2, 9, none⟩ = some (.slice none 0 0) := (blk_cell B_ 9).trans rfl
            have p10_ : w99.cell? ⟨g2, 10, none⟩ = some (.slice none 0 0) := (blk_cell B_ 10).trans rfl
            refine bodyPost_ret (v := .tuple #[.agg #[.int .i64 0, .int .i64 0, .int .i64 0, .int .i64 0, .int .i64 0, .int .i64 0, .int .i64 0, .int .i64 0, .bool false, .slice none 0 0, .slice none 0 0], .int .i64 5]) (by simp [results, Try.results19, go_sem, p0_, p1_, p2_, p3_, p4_, p5_, p6_, p7_, p8_, p9_, p10_]) rfl ?_
            exact ⟨.slice none 0 0, .slice none 0 0, rfl, Kd.R_nil _ _ _ _ _, Kd.R_nil _ _ _ _ _, G_⟩
          | true =>
            obtain rfl : q = ((⟨v0, v1, v2, v3, v4, y0, y1, y2, bd, l9, l10⟩ : Ent), 0) := by
              rw [← HQ.out]
              unfold refEnt
              simp only
              rw [HN.out, if_neg (by simp), H6.out, if_neg (by simp [z6_]), HE8.out, if_neg (by simp [z8_]), HR8.out, HO9.out, if_neg (by simp [z9_]), HO10.out, if_neg (by simp [z10_]), if_neg (by
                rintro (h | h | h)
                · exact h (by rw [HM.out]; exact hm)
                · rw [HN8.out] at h; omega
                · have h' : may (⟨v0, v1, v2, v3, v4, y0, y1, y2, (rdU r6).1 == 1, l9, l10⟩ : Ent) = false := h
                  rw [HN8.out, HBD.out, HTB.out] at h'
                  cases h')]
              rw [HN8.out, HBD.out]
              rfl
            have x0_ := (blk_cell BK19.out 0).trans (rfl : _ = some (.int .i64 v0 : Value))
            have x1_ := (blk_cell BK19.out 1).trans (rfl : _ = some (.int .i64 v1 : Value))
            have x2_ := (blk_cell BK19.out 2).trans (rfl : _ = some (.int .i64 v2 : Value))
            have x3_ := (blk_cell BK19.out 3).trans (rfl : _ = some (.int .i64 v3 : Value))
            have x4_ := (blk_cell BK19.out 4).trans (rfl : _ = some (.int .i64 v4 : Value))
            have x5_ := (blk_cell BK19.out 5).trans (rfl : _ = some (.int .i64 y0 : Value))
            have x6_ := (blk_cell BK19.out 6).trans (rfl : _ = some (.int .i64 y1 : Value))
            have x7_ := (blk_cell BK19.out 7).trans (rfl : _ = some (.int .i64 y2 : Value))
            have x8_ := (blk_cell BK19.out 8).trans (rfl : _ = some (.bool bd : Value))
            have x9_ := (blk_cell BK19.out 9).trans (rfl : _ = some (.slice B9 l9.length d9 : Value))
            have x10_ := (blk_cell BK19.out 10).trans (rfl : _ = some (.slice B10 l10.length d10 : Value))
            have d0_ := (blk_cell BK2.out 0).trans (rfl : _ = some (.int .i64 0 : Value))
            have d1_ := (blk_cell BK2.out 1).trans (rfl : _ = some (.int .i64 0 : Value))
            have d2_ := (blk_cell BK2.out 2).trans (rfl : _ = some (.int .i64 0 : Value))
            have d3_ := (blk_cell BK2.out 3).trans (rfl : _ = some (.int .i64 0 : Value))
            have d4_ := (blk_cell BK2.out 4).trans (rfl : _ = some (.int .i64 0 : Value))
            have d5_ := (blk_cell BK2.out 5).trans (rfl : _ = some (.int .i64 0 : Value))
            have d6_ := (blk_cell BK2.out 6).trans (rfl : _ = some (.int .i64 0 : Value))
            have d7_ := (blk_cell BK2.out 7).trans (rfl : _ = some (.int .i64 0 : Value))
            have d8_ := (blk_cell BK2.out 8).trans (rfl : _ = some (.bool false : Value))
            have d9_ := (blk_cell BK2.out 9).trans (rfl : _ = some (.slice none 0 0 : Value))
            have d10_ := (blk_cell BK2.out 10).trans (rfl : _ = some (.slice none 0 0 : Value))
            have k0_ := blk_frozen BK2.out 0
            have k1_ := blk_frozen BK2.out 1
            have k2_ := blk_frozen BK2.out 2
            have k3_ := blk_frozen BK2.out 3
            have k4_ := blk_frozen BK2.out 4
            have k5_ := blk_frozen BK2.out 5
            have k6_ := blk_frozen BK2.out 6
            have k7_ := blk_frozen BK2.out 7
            have k8_ := blk_frozen BK2.out 8
            have k9_ := blk_frozen BK2.out 9
            have k10_ := blk_frozen BK2.out 10
            go_wp2
            clear d0_ k0_ d1_ k1_ d2_ k2_ d3_ k3_ d4_ k4_ d5_ k5_ d6_ k6_ d7_ k7_ d8_ k8_ d9_ k9_ d10_ k10_
            have R9_ := R_fin HV9.out BK2.out (.int .i64 v0) (.int .i64 v1) (.int .i64 v2) (.int .i64 v3) (.int .i64 v4) (.int .i64 y0) (.int .i64 y1) (.int .i64 y2) (.bool bd) (.slice B9 l9.length d9) (.slice B10 l10.length d10)
            have R10_ := R_fin HV10.out BK2.out (.int .i64 v0) (.int .i64 v1) (.int .i64 v2) (.int .i64 v3) (.int .i64 v4) (.int .i64 y0) (.int .i64 y1) (.int .i64 y2) (.bool bd) (.slice B9 l9.length d9) (.slice B10 l10.length d10)
            obtain ⟨w99, hw_, B_, G_⟩ := B_fin (w := w15) BK2.out HB.out HL2.out (.int .i64 v0) (.int .i64 v1) (.int .i64 v2) (.int .i64 v3) (.int .i64 v4) (.int .i64 y0) (.int .i64 y1) (.int .i64 y2) (.bool bd) (.slice B9 l9.length d9) (.slice B10 l10.length d10)
            rw [← hw_] at R9_ R10_ ⊢
            clear hw_
            have p0_ : w99.cell? ⟨g2, 0, none⟩ = some (.int .i64 v0) := (blk_cell B_ 0).trans rfl
            have p1_ : w99.cell? ⟨g2, 1, none⟩ = some (.int .i64 v1) := (blk_cell B_ 1).trans rfl
            have p2_ : w99.cell? ⟨g2, 2, none⟩ = some (.int .i64 v2) := (blk_cell B_ 2).trans rfl
            have p3_ : w99.cell? ⟨g2, 3, none⟩ = some (.int .i64 v3) := (blk_cell B_ 3).trans rfl
            have p4_ : w99.cell? ⟨g2, 4, none⟩ = some (.int .i64 v4) := (blk_cell B_ 4).trans rfl
            have p5_ : w99.cell? ⟨g2, 5, none⟩ = some (.int .i64 y0) := (blk_cell B_ 5).trans rfl
            have p6_ : w99.cell? ⟨g2, 6, none⟩ = some (.int .i64 y1) := (blk_cell B_ 6).trans rfl
            have p7_ : w99.cell? ⟨g2, 7, none⟩ = some (.int .i64 y2) := (blk_cell B_ 7).trans rfl
            have p8_ : w99.cell? ⟨g2, 8, none⟩ = some (.bool bd) := (blk_cell B_ 8).trans rfl
            have p9_ : w99.cell? ⟨g2, 9, none⟩ = some (.slice B9 l9.length d9) := (blk_cell B_ 9).trans rfl
            have p10_ : w99.cell? ⟨g2, 10, none⟩ = some (.slice B10 l10.length d10) := (blk_cell B_ 10).trans rfl
            refine bodyPost_ret (v := .tuple #[.agg #[.int .i64 v0, .int .i64 v1, .int .i64 v2, .int .i64 v3, .int .i64 v4, .int .i64 y0, .int .i64 y1, .int .i64 y2, .bool bd, .slice B9 l9.length d9, .slice B10 l10.length d10], .int .i64 0]) (by simp [results, Try.results19, go_sem, p0_, p1_, p2_, p3_, p4_, p5_, p6_, p7_, p8_, p9_, p10_]) rfl ?_
            exact ⟨.slice B9 l9.length d9, .slice B10 l10.length d10, rfl, R9_, R10_, G_⟩
      · have hmz : ((m : Int) != 0) = true := by simp; omega
        obtain rfl : q = (zeroE, 5) := by rw [← HQ.out]; unfold refEnt; simp only; rw [HN.out, if_neg (by simp), H6.out, if_neg (by simp [z6_]), HE8.out, if_neg (by simp [z8_]), HR8.out, HO9.out, if_neg (by simp [z9_]), HO10.out, if_neg (by simp [z10_]), if_pos (.inl (by rw [HM.out]; exact hm))]
        have d0_ := (blk_cell BK2.out 0).trans (rfl : _ = some (.int .i64 0 : Value))
        have d1_ := (blk_cell BK2.out 1).trans (rfl : _ = some (.int .i64 0 : Value))
        have d2_ := (blk_cell BK2.out 2).trans (rfl : _ = some (.int .i64 0 : Value))
        have d3_ := (blk_cell BK2.out 3).trans (rfl : _ = some (.int .i64 0 : Value))
        have d4_ := (blk_cell BK2.out 4).trans (rfl : _ = some (.int .i64 0 : Value))
        have d5_ := (blk_cell BK2.out 5).trans (rfl : _ = some (.int .i64 0 : Value))
        have d6_ := (blk_cell BK2.out 6).trans (rfl : _ = some (.int .i64 0 : Value))
        have d7_ := (blk_cell BK2.out 7).trans (rfl : _ = some (.int .i64 0 : Value))
        have d8_ := (blk_cell BK2.out 8).trans (rfl : _ = some (.bool false : Value))
        have d9_ := (blk_cell BK2.out 9).trans (rfl : _ = some (.slice none 0 0 : Value))
        have d10_ := (blk_cell BK2.out 10).trans (rfl : _ = some (.slice none 0 0 : Value))
        have k0_ := blk_frozen BK2.out 0
        have k1_ := blk_frozen BK2.out 1
        have k2_ := blk_frozen BK2.out 2
        have k3_ := blk_frozen BK2.out 3
        have k4_ := blk_frozen BK2.out 4
        have k5_ := blk_frozen BK2.out 5
        have k6_ := blk_frozen BK2.out 6
        have k7_ := blk_frozen BK2.out 7
        have k8_ := blk_frozen BK2.out 8
        have k9_ := blk_frozen BK2.out 9
        have k10_ := blk_frozen BK2.out 10
        go_wp2
        clear d0_ k0_ d1_ k1_ d2_ k2_ d3_ k3_ d4_ k4_ d5_ k5_ d6_ k6_ d7_ k7_ d8_ k8_ d9_ k9_ d10_ k10_
        obtain ⟨w99, hw_, B_, G_⟩ := B_fin (w := w13) BK2.out HB.out HL2.out (.int .i64 0) (.int .i64 0) (.int .i64 0) (.int .i64 0) (.int .i64 0) (.int .i64 0) (.int .i64 0) (.int .i64 0) (.bool false) (.slice none 0 0) (.slice none 0 0)
        rw [← hw_] at ⊢
        clear hw_
        have p0_ : w99.cell? ⟨g2, 0, none⟩ = some (.int .i64 0) := (blk_cell B_ 0).trans rfl
        have p1_ : w99.cell? ⟨g2, 1, none⟩ = some (.int .i64 0) := (blk_cell B_ 1).trans rfl
        have p2_ : w99.cell? ⟨g2, 2, none⟩ = some (.int .i64 0) := (blk_cell B_ 2).trans rfl
        have p3_ : w99.cell? ⟨g2, 3, none⟩ = some (.int .i64 0) := (blk_cell B_ 3).trans rfl
        have p4_ : w99.cell? ⟨g2, 4, none⟩ = some (.int .i64 0) := (blk_cell B_ 4).trans rfl
        have p5_ : w99.cell? ⟨g2, 5, none⟩ = some (.int .i64 0) := (blk_cell B_ 5).trans rfl
        have p6_ : w99.cell? ⟨g2, 6, none⟩ = some (.int .i64 0) := (blk_cell B_ 6).trans rfl
        have p7_ : w99.cell? ⟨g2, 7, none⟩ = some (.int .i64 0) := (blk_cell B_ 7).trans rfl
        have p8_ : w99.cell? ⟨g2, 8, none⟩ = some (.bool false) := (blk_cell B_ 8).trans rfl
        have p9_ : w99.cell? ⟨g2, 9, none⟩ = some (.slice none 0 0) := (blk_cell B_ 9).trans rfl
        have p10_ : w99.cell? ⟨g2, 10, none⟩ = some (.slice none 0 0) := (blk_cell B_ 10).trans rfl
        refine bodyPost_ret (v := .tuple #[.agg #[.int .i64 0, .int .i64 0, .int .i64 0, .int .i64 0, .int .i64 0, .int .i64 0, .int .i64 0, .int .i64 0, .bool false, .slice none 0 0, .slice none 0 0], .int .i64 5]) (by simp [results, Try.results19, go_sem, p0_, p1_, p2_, p3_, p4_, p5_, p6_, p7_, p8_, p9_, p10_]) rfl ?_
        exact ⟨.slice none 0 0, .slice none 0 0, rfl, Kd.R_nil _ _ _ _ _, Kd.R_nil _ _ _ _ _, G_⟩
end Go.Proofs.Ytedbgkbjbfdnlaa.Rc
