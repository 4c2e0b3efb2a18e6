/- (c19) The document's own New. -/
import Derived.Test.YtegfglmnlfkolaaMkR
namespace Go.Proofs.Ytegfglmnlfkolaa.Mk
open Go Go.RowKit Go.Maps Go.Proofs.YtegfglmnlfkolaaW.PrintWords Go.Proofs.YtegfglmnlfkolaaW.PrintLast Go.Proofs.YtegfglmnlfkolaaW.PrintMore
set_option linter.unusedVariables false
set_option linter.unusedSimpArgs false
theorem pos_of {l : List Int} (h : newOk l) {i : Nat} (hi : i < l.length) : 0 ≤ l.getD i 0 := by
  obtain ⟨_, _, h0, hr⟩ := h
  rcases Nat.eq_zero_or_pos i with e | e
  · subst e; exact h0
  · have := rise_lt hr (i - 1) 0 (by omega)
    rw [show 0 + (i - 1) + 1 = i by omega] at this
    omega
structure RN (w wr : World) (l : List Int) (A0 : Option Addr) (n c0 g2 g4 i : Nat) (u : Value) : Prop where
  row : (Kd.int .i64).R 2 wr w.heap.size (fun _ => True) u (List.replicate i (-1))
  b2 : wr.heap[g2]? = some (.cells #[.slice none 0 0, .slice none 0 0] 39 (0, 0))
  b4 : wr.heap[g4]? = some (.cells #[.slice A0 n c0, u] 39 (0, 0))
  rise : Rise l i
  pos : ∀ j, j < i → 0 ≤ l.getD j 0
  below : Below w.heap.size w wr
def NPost (w : World) (A0 : Option Addr) (n c0 : Nat) (l : List Int) (e : Ending) (w' : World) : Prop :=
  Below w.heap.size w w' ∧ (newOk l → ∃ tv, e = .returned (.tuple #[.agg #[.slice A0 n c0, tv], .int .i64 0]) ∧ (Kd.int .i64).R 2 w' w.heap.size (fun _ => True) tv (List.replicate n (-1))) ∧ (¬ newOk l → e = .returned (.tuple #[.agg #[.slice none 0 0, .slice none 0 0], .int .i64 1]))
set_option maxHeartbeats 4000000 in
set_option maxRecDepth 100000 in
theorem rnew (A0 : Option Addr) (c0 n : Nat) (l : List Int) (w : World) (hn : l.length = n) (hC : (Kd.int .i64).C w A0 n l) (hc0 : n ≤ c0) (hN : n ≤ 9223372036854775807) :
    Calls Try.prog 13 #[.slice A0 n c0] w (NPost w A0 n c0 l) := by
  have HN := Aside0.mk hn
  have HC := Aside0.mk hC
  have HCC := Aside0.mk hc0
  clear hn hC hc0
  go_enter Try.func13, Try.ntmps13
  go_upto_region 1 with fail
  have BK2 := Aside0.mk (heap_alloc_new w (.cells #[.slice none 0 0, .slice none 0 0] 39))
  have HB := Aside0.mk (below_alloc (Below.refl w.heap.size w) (.cells #[.slice none 0 0, .slice none 0 0] 39))
  generalize w.alloc (.cells #[.slice none 0 0, .slice none 0 0] 39) = w1 at BK2 HB ⊢
  obtain ⟨g2, HG2⟩ : ∃ g, Aside0 (w.heap.size = g) := ⟨_, ⟨rfl⟩⟩
  replace BK2 : Aside0 (w1.heap[g2]? = some (.cells #[.slice none 0 0, .slice none 0 0] 39 (0, 0))) := ⟨by rw [← HG2.out]; exact BK2.out⟩
  have HL2 : Aside0 (w.heap.size ≤ g2) := ⟨by rw [← HG2.out]; exact Nat.le_refl _⟩
  rw [HG2.out]
  by_cases h0 : n = 0
  · subst h0
    have d0_ := (blk_cell BK2.out 0).trans (rfl : _ = some (.slice none 0 0 : Value))
    have d1_ := (blk_cell BK2.out 1).trans (rfl : _ = some (.slice none 0 0 : Value))
    have k0_ := blk_frozen BK2.out 0
    have k1_ := blk_frozen BK2.out 1
    go_wp2
    have B_ := blk_put (blk_put BK2.out 0 (.slice none 0 0) rfl) 1 (.slice none 0 0) rfl
    have G_ := below_set (j := 1) (v := .slice none 0 0) (below_set (j := 0) (v := .slice none 0 0) HB.out HL2.out) HL2.out
    generalize (w1.setCell ⟨g2, 0, none⟩ (.slice none 0 0)).setCell ⟨g2, 1, none⟩ (.slice none 0 0) = w99 at B_ G_ ⊢
    have p0_ : w99.cell? ⟨g2, 0, none⟩ = some (.slice none 0 0) := (blk_cell B_ 0).trans rfl
    have p1_ : w99.cell? ⟨g2, 1, none⟩ = some (.slice none 0 0) := (blk_cell B_ 1).trans rfl
    refine bodyPost_ret (v := .tuple #[.agg #[.slice none 0 0, .slice none 0 0], .int .i64 1]) (by simp [results, Try.results13, go_sem, p0_, p1_]) rfl ?_
    exact ⟨G_, fun h => absurd (List.length_eq_zero_iff.1 HN.out) h.1, fun _ => rfl⟩

  have h0a : decide ((n : Int) < 1) = false := by simp; omega
  have h0b : decide (n < 1) = false := by simp; omega
  by_cases h1 : 24 < n
  · have h1a : decide ((24 : Int) < (n : Int)) = true := by simp; omega
    have h1b : decide (24 < n) = true := by simp; omega
    have d0_ := (blk_cell BK2.out 0).trans (rfl : _ = some (.slice none 0 0 : Value))
    have d1_ := (blk_cell BK2.out 1).trans (rfl : _ = some (.slice none 0 0 : Value))
    have k0_ := blk_frozen BK2.out 0
    have k1_ := blk_frozen BK2.out 1
    go_wp2
    have B_ := blk_put (blk_put BK2.out 0 (.slice none 0 0) rfl) 1 (.slice none 0 0) rfl
    have G_ := below_set (j := 1) (v := .slice none 0 0) (below_set (j := 0) (v := .slice none 0 0) HB.out HL2.out) HL2.out
    generalize (w1.setCell ⟨g2, 0, none⟩ (.slice none 0 0)).setCell ⟨g2, 1, none⟩ (.slice none 0 0) = w99 at B_ G_ ⊢
    have p0_ : w99.cell? ⟨g2, 0, none⟩ = some (.slice none 0 0) := (blk_cell B_ 0).trans rfl
    have p1_ : w99.cell? ⟨g2, 1, none⟩ = some (.slice none 0 0) := (blk_cell B_ 1).trans rfl
    refine bodyPost_ret (v := .tuple #[.agg #[.slice none 0 0, .slice none 0 0], .int .i64 1]) (by simp [results, Try.results13, go_sem, p0_, p1_]) rfl ?_
    exact ⟨G_, fun h => by have := h.2.1; rw [HN.out] at this; omega, fun _ => rfl⟩

  have h1a : decide ((24 : Int) < (n : Int)) = false := by simp; omega
  have h1b : decide (24 < n) = false := by simp; omega
  go_upto_region 4 with fail
  have BK4 := Aside0.mk (heap_alloc_new w1 (.cells #[.slice A0 n c0, .slice none 0 0] 39))
  have hb_ := below_alloc (Below.refl w1.heap.size w1) (.cells #[.slice A0 n c0, .slice none 0 0] 39)
  have HNG : Aside0 (g2 ≠ w1.heap.size) := ⟨by have := (Array.getElem?_eq_some_iff.1 BK2.out).1; omega⟩
  have HL4 : Aside0 (w.heap.size ≤ w1.heap.size) := ⟨HB.out.size⟩
  generalize w1.alloc (.cells #[.slice A0 n c0, .slice none 0 0] 39) = w2 at BK4 hb_ ⊢
  replace BK2 := Aside0.mk (blk_below BK2.out hb_)
  replace HB := Aside0.mk (below_step HB.out hb_)
  clear hb_
  generalize w1.heap.size = g4 at BK4 HNG HL4 ⊢
  go_wp2_with fail
  go_loopw [5] (fun v5 wr => ∃ (i : Nat) (u : Value), i ≤ n ∧ v5 = .int .i64 (i : Int) ∧ Aside0 (RN w wr l A0 n c0 g2 g4 i u)) (fun v5 _ => n - (intOf v5).toNat)
  case atStart => exact ⟨0, _, by omega, rfl, ⟨⟨Kd.R_nil _ _ _ _ _, BK2.out, BK4.out, fun i h => by omega, fun j hj => by omega, HB.out⟩⟩⟩
  case round =>
    clear BK2 BK4 HB
    obtain ⟨i, u, hi, rfl, HR⟩ := hrel
    have BK2 := Aside0.mk HR.out.b2
    have BK4 := Aside0.mk HR.out.b4
    have HB := Aside0.mk HR.out.below
    by_cases hlt : i < n
    · have h3 : decide ((i : Int) < (n : Int)) = true := by simp; omega
      have h3b : decide (i < n) = true := by simp; omega
      obtain ⟨ad, hA, hx⟩ := Kd.at_int (by have := Kd.C_below HC.out HB.out; rw [← HN.out] at this; exact this) i (by omega) (by rw [HN.out]; omega)
      have hxi : wr.cell? (ad.add i) = some (.int .i64 (rd l i)) := hx
      clear hx
      obtain ⟨x, HX⟩ : ∃ x, Aside0 (rd l i = x) := ⟨_, ⟨rfl⟩⟩
      rw [HX.out] at hxi
      rw [rd_nat] at HX
      subst hA
      have HO := Aside0.mk HR.out.row
      have c0_ := (blk_cell BK4.out 0).trans (rfl : _ = some (.slice (some ad) n c0 : Value))
      have c1_ := (blk_cell BK4.out 1).trans (rfl : _ = some (u : Value))
      by_cases hx0 : x < 0
      · have hxb : decide (x < 0) = true := by simpa using hx0
        have HXN := Aside0.mk hx0
        clear hx0
        go_wp2_with fail
        go_quiet (fail)
        have hb_ := pw_below_drewN (Below.refl wr.heap.size wr) nq
        generalize wr.drewN nq = wq at hb_ ⊢
        replace BK2 := Aside0.mk (blk_below BK2.out hb_)
        replace BK4 := Aside0.mk (blk_below BK4.out hb_)
        replace HB := Aside0.mk (below_step HB.out hb_)
        replace HO := Aside0.mk (Kd.R_below HO.out hb_)
        clear hb_ hxi c0_ c1_
        clear HO
        have d0_ := (blk_cell BK2.out 0).trans (rfl : _ = some (.slice none 0 0 : Value))
        have d1_ := (blk_cell BK2.out 1).trans (rfl : _ = some (.slice none 0 0 : Value))
        have k0_ := blk_frozen BK2.out 0
        have k1_ := blk_frozen BK2.out 1
        go_wp2
        have B_ := blk_put (blk_put BK2.out 0 (.slice none 0 0) rfl) 1 (.slice none 0 0) rfl
        have G_ := below_set (j := 1) (v := .slice none 0 0) (below_set (j := 0) (v := .slice none 0 0) HB.out HL2.out) HL2.out
        generalize (wq.setCell ⟨g2, 0, none⟩ (.slice none 0 0)).setCell ⟨g2, 1, none⟩ (.slice none 0 0) = w99 at B_ G_ ⊢
        have p0_ : w99.cell? ⟨g2, 0, none⟩ = some (.slice none 0 0) := (blk_cell B_ 0).trans rfl
        have p1_ : w99.cell? ⟨g2, 1, none⟩ = some (.slice none 0 0) := (blk_cell B_ 1).trans rfl
        refine bodyPost_ret (v := .tuple #[.agg #[.slice none 0 0, .slice none 0 0], .int .i64 1]) (by simp [results, Try.results13, go_sem, p0_, p1_]) rfl ?_
        exact ⟨G_, fun h => absurd h (fun h => by have := pos_of h (i := i) (by rw [HN.out]; exact hlt); rw [HX.out] at this; have := HXN.out; omega), fun _ => rfl⟩

      · have hxb : decide (x < 0) = false := by simpa using hx0
        have HXP : Aside0 (∀ j, j < i + 1 → 0 ≤ l.getD j 0) := ⟨fun j hj => by
          by_cases e : j = i
          · rw [e, HX.out]; omega
          · exact HR.out.pos j (by omega)⟩
        clear hx0
        by_cases hz : i = 0
        · have hz1 : decide ((0 : Int) < (i : Int)) = false := by simp; omega
          have hz2 : decide (0 < i) = false := by simp; omega
          have HR1 := Aside0.mk (show Rise l (i + 1) from fun k hk => by omega)
          have HZ := Aside0.mk hz
          clear hz
          go_wp2_with fail
          go_quiet (fail)
          have hb_ := pw_below_drewN (Below.refl wr.heap.size wr) nq
          generalize wr.drewN nq = wq at hb_ ⊢
          replace BK2 := Aside0.mk (blk_below BK2.out hb_)
          replace BK4 := Aside0.mk (blk_below BK4.out hb_)
          replace HB := Aside0.mk (below_step HB.out hb_)
          replace HO := Aside0.mk (Kd.R_below HO.out hb_)
          clear hb_ hxi c0_ c1_
          have HNE2 := Aside0.mk (Kd.R_ne HO.out BK2.out (by decide))
          have HNE4 := Aside0.mk (Kd.R_ne HO.out BK4.out (by decide))
          have c0_ := (blk_cell BK4.out 0).trans (rfl : _ = some (.slice (some ad) n c0 : Value))
          have c1_ := (blk_cell BK4.out 1).trans (rfl : _ = some (u : Value))
          go_wp2_with (((with_reducible refine gate_builtin (b := .append) (xs := #[.tmp 46, .tmp 47]) rfl ?_); at_builtin; refine Kd.R_append (Kd.int .i64) (w0 := w) w.heap.size rfl (.tmp 46) (.tmp 47) 36 2 (.int .i64 0) 8 rfl Try.underlying36 info2 rfl (by decide) (by omega) u (List.replicate i (-1)) (-1) [.int .i64 (-1)] (fun _ => True) (fun _ => False) rfl rfl ?aP (fun _ hk => hk.elim) (fun _ _ => trivial) ?aO ?aB ?aS ?aL ?_; (try (case aP => exact rfl)); (case aB => exact (by repeat (first | exact HB.out | apply below_alloc))); (case aO => exact (by (with_reducible repeat (first | apply Kd.R_alloc | apply Kd.R_drewN | apply Kd.R_drew)); exact HO.out)); (case aS => exact (below_size (by repeat (first | exact HB.out | apply below_alloc)))); (case aL => rw [List.length_replicate]; omega); intro v48 w48 ho_ hb hg hat; obtain ⟨Av48, cv48, rfl⟩ := Kd.R_slice ho_; have n0_ := Aside0.mk (ho_); clear HO; have HO := n0_; clear n0_; have HB3 := Aside0.mk hb; have hk2_ := Aside0.mk (blk_grown BK2.out hg HNE2.out); have hk4_ := Aside0.mk (blk_grown BK4.out hg HNE4.out); have e0_ := (blk_cell hk4_.out 0).trans (rfl : _ = some (.slice (some ad) n c0 : Value)); have e1_ := (blk_cell hk4_.out 1).trans (rfl : _ = some u); have f0_ := blk_frozen hk4_.out 0; have f1_ := blk_frozen hk4_.out 1; clear ho_ hb hg hat))
          go_roundw
          case rel => exact ⟨i + 1, _, by omega, by go_num, ⟨⟨(by have h_ := HO.out; have e_ : (List.replicate i (-1 : Int) ++ [-1]).length = i + 1 := (by simp); rw [e_] at h_; rw [List.replicate_succ']; exact Kd.R_set h_ hk4_.out (by decide) 1 _), blk_far hk2_.out (p := ⟨g4, 1, none⟩) HNG.out _, blk_put hk4_.out 1 _ rfl, HR1.out, HXP.out, below_set (j := 1) (v := _) HB3.out HL4.out⟩⟩⟩
          case measure => simp [intOf]; omega

        · obtain ⟨j, hj⟩ : ∃ j, Aside0 (i = j + 1) := ⟨i - 1, ⟨by omega⟩⟩
          have hz1 : decide ((0 : Int) < (i : Int)) = true := by simp; omega
          have hz2 : decide (0 < i) = true := by simp; omega
          have hw : IntKind.i64.wrap ((i : Int) - 1) = (j : Int) := by have := hj.out; simp [IntKind.wrap, IntKind.bits, IntKind.signed]; omega
          have hw6 : wrap64 ((i : Int) - 1) = (j : Int) := by have := hj.out; unfold wrap64; omega
          have hje : (i : Int) - 1 = (j : Int) := by have := hj.out; omega
          have hjn : decide (j < n) = true := by have := hj.out; simp; omega
          obtain ⟨ad1, hA1, hx⟩ := Kd.at_int (by have := Kd.C_below HC.out HB.out; rw [← HN.out] at this; exact this) j (by omega) (by have := hj.out; rw [HN.out]; omega)
          injection hA1 with hA1
          subst hA1
          have hxj : wr.cell? (ad.add j) = some (.int .i64 (rd l j)) := hx
          clear hx
          obtain ⟨y, HY⟩ : ∃ y, Aside0 (rd l j = y) := ⟨_, ⟨rfl⟩⟩
          rw [HY.out] at hxj
          rw [rd_nat] at HY
          by_cases hle : x ≤ y
          · have hl1 : decide (x ≤ y) = true := by simpa using hle
            have HX0 := Aside0.mk (show ¬ newOk l from fun h => by have := h.2.2.2 j (by have := hj.out; rw [HN.out]; omega); rw [← hj.out, HX.out, HY.out] at this; omega)
            clear hz
            go_wp2_with fail
            go_quiet (fail)
            have hb_ := pw_below_drewN (Below.refl wr.heap.size wr) nq
            generalize wr.drewN nq = wq at hb_ ⊢
            replace BK2 := Aside0.mk (blk_below BK2.out hb_)
            replace BK4 := Aside0.mk (blk_below BK4.out hb_)
            replace HB := Aside0.mk (below_step HB.out hb_)
            replace HO := Aside0.mk (Kd.R_below HO.out hb_)
            clear hb_ hxi c0_ c1_
            clear HO
            have d0_ := (blk_cell BK2.out 0).trans (rfl : _ = some (.slice none 0 0 : Value))
            have d1_ := (blk_cell BK2.out 1).trans (rfl : _ = some (.slice none 0 0 : Value))
            have k0_ := blk_frozen BK2.out 0
            have k1_ := blk_frozen BK2.out 1
            go_wp2
            have B_ := blk_put (blk_put BK2.out 0 (.slice none 0 0) rfl) 1 (.slice none 0 0) rfl
            have G_ := below_set (j := 1) (v := .slice none 0 0) (below_set (j := 0) (v := .slice none 0 0) HB.out HL2.out) HL2.out
            generalize (wq.setCell ⟨g2, 0, none⟩ (.slice none 0 0)).setCell ⟨g2, 1, none⟩ (.slice none 0 0) = w99 at B_ G_ ⊢
            have p0_ : w99.cell? ⟨g2, 0, none⟩ = some (.slice none 0 0) := (blk_cell B_ 0).trans rfl
            have p1_ : w99.cell? ⟨g2, 1, none⟩ = some (.slice none 0 0) := (blk_cell B_ 1).trans rfl
            refine bodyPost_ret (v := .tuple #[.agg #[.slice none 0 0, .slice none 0 0], .int .i64 1]) (by simp [results, Try.results13, go_sem, p0_, p1_]) rfl ?_
            exact ⟨G_, fun h => absurd h (fun h => absurd h HX0.out), fun _ => rfl⟩

          · have hl1 : decide (x ≤ y) = false := by simpa using hle
            have HR1 := Aside0.mk (show Rise l (i + 1) from fun k hk => by
              by_cases e : k = j
              · subst e
                rw [← hj.out, HX.out, HY.out]
                omega
              · exact HR.out.rise k (by have := hj.out; omega))
            clear hz hle
            go_wp2_with fail
            go_quiet (fail)
            have hb_ := pw_below_drewN (Below.refl wr.heap.size wr) nq
            generalize wr.drewN nq = wq at hb_ ⊢
            replace BK2 := Aside0.mk (blk_below BK2.out hb_)
            replace BK4 := Aside0.mk (blk_below BK4.out hb_)
            replace HB := Aside0.mk (below_step HB.out hb_)
            replace HO := Aside0.mk (Kd.R_below HO.out hb_)
            clear hb_ hxi c0_ c1_
            have HNE2 := Aside0.mk (Kd.R_ne HO.out BK2.out (by decide))
            have HNE4 := Aside0.mk (Kd.R_ne HO.out BK4.out (by decide))
            have c0_ := (blk_cell BK4.out 0).trans (rfl : _ = some (.slice (some ad) n c0 : Value))
            have c1_ := (blk_cell BK4.out 1).trans (rfl : _ = some (u : Value))
            go_wp2_with (((with_reducible refine gate_builtin (b := .append) (xs := #[.tmp 46, .tmp 47]) rfl ?_); at_builtin; refine Kd.R_append (Kd.int .i64) (w0 := w) w.heap.size rfl (.tmp 46) (.tmp 47) 36 2 (.int .i64 0) 8 rfl Try.underlying36 info2 rfl (by decide) (by omega) u (List.replicate i (-1)) (-1) [.int .i64 (-1)] (fun _ => True) (fun _ => False) rfl rfl ?aP (fun _ hk => hk.elim) (fun _ _ => trivial) ?aO ?aB ?aS ?aL ?_; (try (case aP => exact rfl)); (case aB => exact (by repeat (first | exact HB.out | apply below_alloc))); (case aO => exact (by (with_reducible repeat (first | apply Kd.R_alloc | apply Kd.R_drewN | apply Kd.R_drew)); exact HO.out)); (case aS => exact (below_size (by repeat (first | exact HB.out | apply below_alloc)))); (case aL => rw [List.length_replicate]; omega); intro v48 w48 ho_ hb hg hat; obtain ⟨Av48, cv48, rfl⟩ := Kd.R_slice ho_; have n0_ := Aside0.mk (ho_); clear HO; have HO := n0_; clear n0_; have HB3 := Aside0.mk hb; have hk2_ := Aside0.mk (blk_grown BK2.out hg HNE2.out); have hk4_ := Aside0.mk (blk_grown BK4.out hg HNE4.out); have e0_ := (blk_cell hk4_.out 0).trans (rfl : _ = some (.slice (some ad) n c0 : Value)); have e1_ := (blk_cell hk4_.out 1).trans (rfl : _ = some u); have f0_ := blk_frozen hk4_.out 0; have f1_ := blk_frozen hk4_.out 1; clear ho_ hb hg hat))
            go_roundw
            case rel => exact ⟨i + 1, _, by omega, by go_num, ⟨⟨(by have h_ := HO.out; have e_ : (List.replicate i (-1 : Int) ++ [-1]).length = i + 1 := (by simp); rw [e_] at h_; rw [List.replicate_succ']; exact Kd.R_set h_ hk4_.out (by decide) 1 _), blk_far hk2_.out (p := ⟨g4, 1, none⟩) HNG.out _, blk_put hk4_.out 1 _ rfl, HR1.out, HXP.out, below_set (j := 1) (v := _) HB3.out HL4.out⟩⟩⟩
            case measure => simp [intOf]; omega

    · obtain rfl : n = i := by omega
      have h3 : decide ((n : Int) < (n : Int)) = false := by simp
      obtain ⟨Au, cu, rfl⟩ := Kd.R_slice HR.out.row
      rw [List.length_replicate] at BK4 HR
      have HK := Aside0.mk (show newOk l from ⟨fun h => h0 (by rw [← HN.out, h]; rfl), by rw [HN.out]; omega, HR.out.pos 0 (by omega), by rw [HN.out]; exact HR.out.rise⟩)
      have c0_ := (blk_cell BK4.out 0).trans (rfl : _ = some (.slice A0 n c0 : Value))
      have c1_ := (blk_cell BK4.out 1).trans (rfl : _ = some (.slice Au n cu : Value))
      have d0_ := (blk_cell BK2.out 0).trans (rfl : _ = some (.slice none 0 0 : Value))
      have d1_ := (blk_cell BK2.out 1).trans (rfl : _ = some (.slice none 0 0 : Value))
      have k0_ := blk_frozen BK2.out 0
      have k1_ := blk_frozen BK2.out 1
      go_wp2
      have B_ := blk_put (blk_put BK2.out 0 (.slice A0 n c0) rfl) 1 (.slice Au n cu) rfl
      have G_ := below_set (j := 1) (v := .slice Au n cu) (below_set (j := 0) (v := .slice A0 n c0) HB.out HL2.out) HL2.out
      have R_ := Kd.R_set (Kd.R_set HR.out.row BK2.out (by decide) 0 (.slice A0 n c0)) (blk_put BK2.out 0 (.slice A0 n c0) rfl) (by decide) 1 (.slice Au n cu)
      generalize (wr.setCell ⟨g2, 0, none⟩ (.slice A0 n c0)).setCell ⟨g2, 1, none⟩ (.slice Au n cu) = w99 at B_ G_ R_ ⊢
      have p0_ : w99.cell? ⟨g2, 0, none⟩ = some (.slice A0 n c0) := (blk_cell B_ 0).trans rfl
      have p1_ : w99.cell? ⟨g2, 1, none⟩ = some (.slice Au n cu) := (blk_cell B_ 1).trans rfl
      refine bodyPost_ret (v := .tuple #[.agg #[.slice A0 n c0, .slice Au n cu], .int .i64 0]) (by simp [results, Try.results13, go_sem, p0_, p1_]) rfl ?_
      exact ⟨G_, fun _ => ⟨_, rfl, R_⟩, fun h => absurd HK.out h⟩

end Go.Proofs.Ytegfglmnlfkolaa.Mk
