/- (c19) The document's own See. -/
import Derived.Test.YtegfglmnlfkolaaMkC
import Derived.Deep.QuietTactic
import Derived.BigQuiet
import Derived.Deep.RegionWith
namespace Go.Proofs.Ytegfglmnlfkolaa.Mk
open Go Go.RowKit Go.Maps Go.Proofs.YtegfglmnlfkolaaW.PrintWords Go.Proofs.YtegfglmnlfkolaaW.PrintLast Go.Proofs.YtegfglmnlfkolaaW.PrintMore
set_option linter.unusedVariables false
set_option linter.unusedSimpArgs false
theorem info2 : (Try.prog.info? 2).map (fun i => (i.zero, i.size, i.bytes)) = some (some (.int .i64 0), 1, 8) := by kernel_rfl
theorem upd_snd {L : List (Int × Int)} (hs : L.Pairwise fun p q => p.1 < q.1) {i : Nat} (hi : i < L.length) {v : Int} (hv : (L[i]).1 = v) (t : Int) : (upd L v t).map (·.2) = (L.map (·.2)).set i t := by
  apply List.ext_getElem
  · simp [upd]
  intro j h1 h2
  have hj : j < L.length := by simpa [upd] using h1
  rw [List.getElem_set]
  simp only [upd, List.getElem_map]
  by_cases e : i = j
  · subst e
    rw [if_pos rfl, if_pos hv]
  · rw [if_neg e, if_neg]
    intro h
    rcases Nat.lt_or_gt_of_ne e with h3 | h3
    · have := List.pairwise_iff_getElem.1 hs i j hi hj h3; omega
    · have := List.pairwise_iff_getElem.1 hs j i hj hi h3; omega
theorem upd_same {L : List (Int × Int)} (hs : L.Pairwise fun p q => p.1 < q.1) {v y : Int} (h : lk L v = some y) : upd L v y = L := by
  unfold upd
  conv => rhs; rw [← List.map_id L]
  apply List.map_congr_left
  intro p hp
  by_cases e : p.1 = v
  · rw [if_pos e]
    obtain ⟨a, b⟩ := p
    simp only at e
    subst e
    have := lk_of_mem hs hp
    rw [this] at h
    injection h with h
    subst h
    rfl
  · rw [if_neg e]
    rfl
theorem lk_at {L : List (Int × Int)} (hs : L.Pairwise fun p q => p.1 < q.1) {l ts : List Int} (hk : L.map (·.1) = l) (ht : L.map (·.2) = ts) {i : Nat} (hi : i < l.length) {v y : Int} (hv : l.getD i 0 = v) (hy : ts.getD i 0 = y) : ∃ h : i < L.length, (L[i]).1 = v ∧ lk L v = some y := by
  have hl : i < L.length := by rw [← hk] at hi; simpa using hi
  have e1 : (L[i]).1 = v := by rw [← hv, ← hk, List.getD_eq_getElem?_getD, List.getElem?_map, List.getElem?_eq_getElem hl]; rfl
  have e2 : (L[i]).2 = y := by rw [← hy, ← ht, List.getD_eq_getElem?_getD, List.getElem?_map, List.getElem?_eq_getElem hl]; rfl
  refine ⟨hl, e1, ?_⟩
  have := lk_of_mem hs (k := (L[i]).1) (t := (L[i]).2) (List.getElem_mem hl)
  rw [e1, e2] at this
  exact this
theorem lk_no {L : List (Int × Int)} {l : List Int} (hk : L.map (·.1) = l) {v : Int} (h : ∀ j, j < l.length → l.getD j 0 ≠ v) : lk L v = none := by
  rw [lk_none]
  intro p hp
  obtain ⟨j, hj, rfl⟩ := List.getElem_of_mem hp
  have := h j (by rw [← hk]; simpa using hj)
  rwa [← hk, List.getD_eq_getElem?_getD, List.getElem?_map, List.getElem?_eq_getElem hj] at this
set_option maxHeartbeats 4000000 in
set_option maxRecDepth 100000 in
theorem rsee (A0 : Option Addr) (c0 n : Nat) (l : List Int) (L : List (Int × Int)) (tv : Value) (v t : Int) (base : Nat) (w : World) (hk : L.map (·.1) = l) (hn : l.length = n) (hC : (Kd.int .i64).C w A0 n l) (hc0 : n ≤ c0) (hR : (Kd.int .i64).R 2 w base (fun _ => True) tv (L.map (·.2))) (hb : base ≤ w.heap.size) (hg : Good L) (h24 : n ≤ 24) (hpos : 0 < n) :
    Calls Try.prog 14 #[.agg #[.slice A0 n c0, tv], .int .i64 v, .int .i64 t] w fun e w' => ∃ tv' : Value, e = .returned (.tuple #[.agg #[.slice A0 n c0, tv'], .bool (see L v t).2.1, .int .i64 (see L v t).2.2]) ∧ (Kd.int .i64).R 2 w' base (fun _ => True) tv' ((see L v t).1.map (·.2)) ∧ Below w.heap.size w w' := by
  obtain ⟨AT, cT, rfl⟩ := Kd.R_slice hR
  obtain ⟨q, HQ⟩ : ∃ q, Aside0 (see L v t = q) := ⟨_, ⟨rfl⟩⟩
  rw [HQ.out]
  obtain ⟨ts, HTS⟩ : ∃ ts, Aside0 (L.map (·.2) = ts) := ⟨_, ⟨rfl⟩⟩
  have HTN : Aside0 (ts.length = n) := ⟨by rw [← HTS.out, ← hn, ← hk]; simp⟩
  rw [HTS.out, HTN.out] at hR
  rw [HTS.out, HTN.out]
  obtain ⟨ad, rfl, _⟩ := Kd.at_int (by have := hC; rw [← hn] at this; exact this) 0 (by omega) (by omega)
  obtain ⟨adT, rfl, _⟩ := Kd.at_int (by have h_ := (Kd.R_reads' hR).2.2; exact h_) 0 (by omega) (by have := HTN.out; omega)
  have HK := Aside0.mk hk
  have HN := Aside0.mk hn
  have HC0 := Aside0.mk hC
  have HR0 := Aside0.mk hR
  have HBS := Aside0.mk hb
  have HG := Aside0.mk hg
  have HCC := Aside0.mk hc0
  have hnN : n ≤ 9223372036854775807 := by omega
  clear hk hn hC hR hb hg hc0
  go_enter Try.func14, Try.ntmps14
  go_upto_region 1 with fail
  have BK3 : Aside0 (((w.alloc (.cells #[.slice (some ad) n c0, .slice (some adT) n cT] 39)).alloc (.cells #[.slice none 0 0, .slice none 0 0] 39)).heap[w.heap.size]? = some (.cells #[.slice (some ad) n c0, .slice (some adT) n cT] 39 (0, 0))) := ⟨blk_below (heap_alloc_new w _) (below_alloc (Below.refl _ _) _)⟩
  have BK6 : Aside0 (((w.alloc (.cells #[.slice (some ad) n c0, .slice (some adT) n cT] 39)).alloc (.cells #[.slice none 0 0, .slice none 0 0] 39)).heap[w.heap.size + 1]? = some (.cells #[.slice none 0 0, .slice none 0 0] 39 (0, 0))) := ⟨by rw [show w.heap.size + 1 = (w.alloc (.cells #[.slice (some ad) n c0, .slice (some adT) n cT] 39)).heap.size by simp]; exact heap_alloc_new _ _⟩
  have HB := Aside0.mk (below_alloc (below_alloc (Below.refl w.heap.size w) (.cells #[.slice (some ad) n c0, .slice (some adT) n cT] 39)) (.cells #[.slice none 0 0, .slice none 0 0] 39))
  generalize (w.alloc (.cells #[.slice (some ad) n c0, .slice (some adT) n cT] 39)).alloc (.cells #[.slice none 0 0, .slice none 0 0] 39) = w1 at BK3 BK6 HB ⊢
  have HL3 : Aside0 (w.heap.size ≤ w.heap.size) := ⟨Nat.le_refl _⟩
  have HL6 : Aside0 (w.heap.size ≤ w.heap.size + 1) := ⟨by omega⟩
  have HNE : Aside0 (w.heap.size + 1 ≠ w.heap.size) := ⟨by omega⟩
  have HC := Aside0.mk (Kd.C_below HC0.out HB.out)
  have HR := Aside0.mk (Kd.R_below HR0.out HB.out)
  obtain ⟨g6, HG6⟩ : ∃ g, Aside0 (w.heap.size + 1 = g) := ⟨_, ⟨rfl⟩⟩
  obtain ⟨g3, HG3⟩ : ∃ g, Aside0 (w.heap.size = g) := ⟨_, ⟨rfl⟩⟩
  rw [HG6.out] at BK6 HL6 HNE ⊢
  replace BK3 : Aside0 (w1.heap[g3]? = some (.cells #[.slice (some ad) n c0, .slice (some adT) n cT] 39 (0, 0))) := ⟨by rw [← HG3.out]; exact BK3.out⟩
  replace HL3 : Aside0 (w.heap.size ≤ g3) := ⟨by rw [← HG3.out]; exact Nat.le_refl _⟩
  replace HNE : Aside0 (g6 ≠ g3) := ⟨by rw [← HG3.out]; exact HNE.out⟩
  have HLW := Aside0.mk HB.out.size
  have HBA := Aside0.mk (Below.refl w1.heap.size w1)
  go_wp2_with fail
  rw [HG3.out]
  go_loopw [9] (fun v9 wr => ∃ i : Nat, i ≤ n ∧ v9 = .int .i64 (i : Int) ∧ wr = w1 ∧ Aside0 (∀ j, j < i → l.getD j 0 ≠ v)) (fun v9 _ => n - (intOf v9).toNat)
  case atStart => exact ⟨0, by omega, rfl, rfl, ⟨fun j hj => by omega⟩⟩
  case round =>
    obtain ⟨i, hi, rfl, rfl, HI⟩ := hrel
    have c0_ := (blk_cell BK3.out 0).trans (rfl : _ = some (.slice (some ad) n c0 : Value))
    by_cases hlt : i < n
    · have h3 : decide ((i : Int) < (n : Int)) = true := by simp; omega
      have h3b : decide (i < n) = true := by simp; omega
      obtain ⟨ad1, hA, hx⟩ := Kd.at_int (by have := HC.out; rw [← HN.out] at this; exact this) i (by omega) (by rw [HN.out]; omega)
      injection hA with hA
      subst hA
      have hxi : wr.cell? (ad.add i) = some (.int .i64 (rd l i)) := hx
      clear hx
      obtain ⟨x, HX⟩ : ∃ x, Aside0 (rd l i = x) := ⟨_, ⟨rfl⟩⟩
      rw [HX.out] at hxi
      rw [rd_nat] at HX
      by_cases hv : x = v
      · have hv1 : (x == v) = true := by simpa using hv
        have hv2 : (x != v) = false := by simpa using hv
        obtain ⟨y, HY⟩ : ∃ y, Aside0 (ts.getD i 0 = y) := ⟨_, ⟨rfl⟩⟩
        have HLK := Aside0.mk (lk_at HG.out.rise HK.out HTS.out (by rw [HN.out]; exact hlt) (HX.out.trans hv) HY.out)
        clear hv
        by_cases hb : t < 0 ∨ 1099511627776 < t
        · have hbb : decide (t < 0) = true ∨ (decide (t < 0) = false ∧ decide (1099511627776 < t) = true) := by
            by_cases h : t < 0
            · exact .inl (decide_eq_true h)
            · exact .inr ⟨decide_eq_false h, decide_eq_true (by omega)⟩
          have HBD := Aside0.mk hb
          clear hb
          rcases hbb with hb1 | ⟨hb1, hb2⟩
          · skip
            obtain rfl : q = (L, false, 2) := by rw [← HQ.out]; unfold see; rw [HLK.out.2.2]; simp only; rw [if_pos HBD.out]
            have c0_ := (blk_cell BK3.out 0).trans (rfl : _ = some (.slice (some ad) n c0 : Value))
            have c1_ := (blk_cell BK3.out 1).trans (rfl : _ = some (.slice (some adT) n cT : Value))
            have d0_ := (blk_cell BK6.out 0).trans (rfl : _ = some (.slice none 0 0 : Value))
            have d1_ := (blk_cell BK6.out 1).trans (rfl : _ = some (.slice none 0 0 : Value))
            have k0_ := blk_frozen BK6.out 0
            have k1_ := blk_frozen BK6.out 1
            go_wp2
            have B_ := blk_put (blk_put BK6.out 0 (.slice (some ad) n c0) rfl) 1 (.slice (some adT) n cT) rfl
            have G_ := below_set (j := 1) (v := .slice (some adT) n cT) (below_set (j := 0) (v := .slice (some ad) n c0) HB.out HL6.out) HL6.out
            have R_ := Kd.R_set (Kd.R_set HR.out BK6.out (by decide) 0 (.slice (some ad) n c0)) (blk_put BK6.out 0 (.slice (some ad) n c0) rfl) (by decide) 1 (.slice (some adT) n cT)
            generalize (wr.setCell ⟨g6, 0, none⟩ (.slice (some ad) n c0)).setCell ⟨g6, 1, none⟩ (.slice (some adT) n cT) = w99 at B_ G_ R_ ⊢
            have p0_ : w99.cell? ⟨g6, 0, none⟩ = some (.slice (some ad) n c0) := (blk_cell B_ 0).trans rfl
            have p1_ : w99.cell? ⟨g6, 1, none⟩ = some (.slice (some adT) n cT) := (blk_cell B_ 1).trans rfl
            refine bodyPost_ret (v := .tuple #[.agg #[.slice (some ad) n c0, .slice (some adT) n cT], .bool false, .int .i64 2]) (by simp [results, Try.results14, go_sem, p0_, p1_]) rfl ?_
            exact ⟨_, rfl, (by rw [HTS.out]; exact R_), G_⟩

          · skip
            obtain rfl : q = (L, false, 2) := by rw [← HQ.out]; unfold see; rw [HLK.out.2.2]; simp only; rw [if_pos HBD.out]
            have c0_ := (blk_cell BK3.out 0).trans (rfl : _ = some (.slice (some ad) n c0 : Value))
            have c1_ := (blk_cell BK3.out 1).trans (rfl : _ = some (.slice (some adT) n cT : Value))
            have d0_ := (blk_cell BK6.out 0).trans (rfl : _ = some (.slice none 0 0 : Value))
            have d1_ := (blk_cell BK6.out 1).trans (rfl : _ = some (.slice none 0 0 : Value))
            have k0_ := blk_frozen BK6.out 0
            have k1_ := blk_frozen BK6.out 1
            go_wp2
            have B_ := blk_put (blk_put BK6.out 0 (.slice (some ad) n c0) rfl) 1 (.slice (some adT) n cT) rfl
            have G_ := below_set (j := 1) (v := .slice (some adT) n cT) (below_set (j := 0) (v := .slice (some ad) n c0) HB.out HL6.out) HL6.out
            have R_ := Kd.R_set (Kd.R_set HR.out BK6.out (by decide) 0 (.slice (some ad) n c0)) (blk_put BK6.out 0 (.slice (some ad) n c0) rfl) (by decide) 1 (.slice (some adT) n cT)
            generalize (wr.setCell ⟨g6, 0, none⟩ (.slice (some ad) n c0)).setCell ⟨g6, 1, none⟩ (.slice (some adT) n cT) = w99 at B_ G_ R_ ⊢
            have p0_ : w99.cell? ⟨g6, 0, none⟩ = some (.slice (some ad) n c0) := (blk_cell B_ 0).trans rfl
            have p1_ : w99.cell? ⟨g6, 1, none⟩ = some (.slice (some adT) n cT) := (blk_cell B_ 1).trans rfl
            refine bodyPost_ret (v := .tuple #[.agg #[.slice (some ad) n c0, .slice (some adT) n cT], .bool false, .int .i64 2]) (by simp [results, Try.results14, go_sem, p0_, p1_]) rfl ?_
            exact ⟨_, rfl, (by rw [HTS.out]; exact R_), G_⟩

        · have hb1 : decide (t < 0) = false := by simp; omega
          have hb2 : decide (1099511627776 < t) = false := by simp; omega
          have HBD := Aside0.mk hb
          have hnT : i < ts.length := by rw [HTN.out]; exact hlt
          have c1_ := (blk_cell BK3.out 1).trans (rfl : _ = some (.slice (some adT) n cT : Value))
          obtain ⟨ad2, hAT, hxT⟩ := Kd.at_int (Kd.R_reads' HR.out).2.2 i (by omega) (by omega)
          injection hAT with hAT
          subst hAT
          have hyi : wr.cell? (adT.add i) = some (.int .i64 (rd ts i)) := hxT
          rw [rd_nat, HY.out] at hyi
          clear hxT hb hnT
          by_cases hy : t ≤ y
          · have hy1 : decide (t ≤ y) = true := by simpa using hy
            have hq : q = (L, false, 0) := by
              rw [← HQ.out]
              unfold see
              rw [HLK.out.2.2]
              simp only
              rw [if_neg HBD.out, if_neg (by omega), upd_same HG.out.rise HLK.out.2.2, decide_eq_false (by omega)]
            clear hy
            subst hq
            have c0_ := (blk_cell BK3.out 0).trans (rfl : _ = some (.slice (some ad) n c0 : Value))
            have c1_ := (blk_cell BK3.out 1).trans (rfl : _ = some (.slice (some adT) n cT : Value))
            have d0_ := (blk_cell BK6.out 0).trans (rfl : _ = some (.slice none 0 0 : Value))
            have d1_ := (blk_cell BK6.out 1).trans (rfl : _ = some (.slice none 0 0 : Value))
            have k0_ := blk_frozen BK6.out 0
            have k1_ := blk_frozen BK6.out 1
            go_wp2
            have B_ := blk_put (blk_put BK6.out 0 (.slice (some ad) n c0) rfl) 1 (.slice (some adT) n cT) rfl
            have G_ := below_set (j := 1) (v := .slice (some adT) n cT) (below_set (j := 0) (v := .slice (some ad) n c0) HB.out HL6.out) HL6.out
            have R_ := Kd.R_set (Kd.R_set HR.out BK6.out (by decide) 0 (.slice (some ad) n c0)) (blk_put BK6.out 0 (.slice (some ad) n c0) rfl) (by decide) 1 (.slice (some adT) n cT)
            generalize (wr.setCell ⟨g6, 0, none⟩ (.slice (some ad) n c0)).setCell ⟨g6, 1, none⟩ (.slice (some adT) n cT) = w99 at B_ G_ R_ ⊢
            have p0_ : w99.cell? ⟨g6, 0, none⟩ = some (.slice (some ad) n c0) := (blk_cell B_ 0).trans rfl
            have p1_ : w99.cell? ⟨g6, 1, none⟩ = some (.slice (some adT) n cT) := (blk_cell B_ 1).trans rfl
            refine bodyPost_ret (v := .tuple #[.agg #[.slice (some ad) n c0, .slice (some adT) n cT], .bool false, .int .i64 0]) (by simp [results, Try.results14, go_sem, p0_, p1_]) rfl ?_
            exact ⟨_, rfl, (by rw [HTS.out]; exact R_), G_⟩

          · have hy1 : decide (t ≤ y) = false := by simpa using hy
            obtain ⟨hiL, hv0, hlk⟩ := HLK.out
            have hq : q = (upd L v t, true, 0) := by
              rw [← HQ.out]
              unfold see
              rw [hlk]
              simp only
              rw [if_neg HBD.out, if_pos (by omega), decide_eq_true (by omega)]
            have HU := Aside0.mk (upd_snd HG.out.rise hiL hv0 t)
            rw [HTS.out] at HU
            clear hy
            subst hq
            have f0_ := blk_frozen BK3.out 0
            have f1_ := blk_frozen BK3.out 1
            go_upto_region 9 with fail
            clear hyi hxi
            go_upto_region 10 with (first | ((with_reducible refine gate_dst (N := 39) rfl ?_); refine Kd.R_lit (Kd.int .i64) _ 2 ?hg (N := 39) ?hd (xs := []) (inner := []) (ok := fun _ => True) (okp := fun _ => True) ?hr ?hp (fun _ hk => hk) trivial (Below.refl _ _) (Nat.le_refl _) (by simp) ?_; (case hd => rfl); (case hg => rfl); (case hr => first | (go_simp; done) | (go_simp; rfl)); (case hp => exact (Reps.none _ _)); intro v39 w39 ho_ hb hg_ hnew_; have HO := Aside0.mk (Kd.R_lower ho_ (below_size (by repeat (first | (with_reducible first | exact HBA.out | apply below_alloc | apply pw_below_drewN | apply below_drew1) | exact HBA.out)))); have n0_ := Aside0.mk (below_step (by repeat (first | (with_reducible first | exact HBA.out | apply below_alloc | apply pw_below_drewN | apply below_drew1) | exact HBA.out)) hb); have n1_ := Aside0.mk (blk_below BK3.out hb); have n2_ := Aside0.mk (blk_below BK6.out hb); have n3_ := Aside0.mk (Kd.R_below HR.out hb); clear HBA; clear BK3; clear BK6; clear HR; have HBA := n0_; have BK3 := n1_; have BK6 := n2_; have HR := n3_; clear n0_ n1_ n2_ n3_; have c0_ := (blk_cell BK3.out 0).trans (rfl : _ = some (.slice (some ad) n c0 : Value)); have c1_ := (blk_cell BK3.out 1).trans (rfl : _ = some (.slice (some adT) n cT : Value)); have f0_ := blk_frozen BK3.out 0; have f1_ := blk_frozen BK3.out 1;clear hg_ hnew_ hb ho_) | ((with_reducible refine gate_builtin (b := .append) (xs := #[.tmp 39, .tmp 41]) rfl ?_); at_builtin; refine Kd.R_append_rows (Kd.int .i64) (w0 := wr) wr.heap.size rfl (.tmp 39) (.tmp 41) 36 2 (.int .i64 0) 8 rfl Try.underlying36 info2 rfl (by decide) (by omega) v39 [] ts _ _ _ (fun _ => True) (fun _ => False) rfl rfl ?aO ?aR (fun _ _ h => h) (fun _ h => h.elim) (fun _ _ => trivial) (by repeat (first | (with_reducible first | exact HBA.out | apply below_alloc | apply pw_below_drewN | apply below_drew1) | exact HBA.out)) (below_size (by repeat (first | (with_reducible first | exact HBA.out | apply below_alloc | apply pw_below_drewN | apply below_drew1) | exact HBA.out))) ?aL ?_; (case aR => exact (by have h_ := (Kd.R_reads' HR.out).2.2; rwa [HTN.out] at h_)); (case aO => exact HO.out); (case aL => have := HTN.out; simp only [List.length_nil]; omega); intro v42 w42 ho_ hb hg hat; have n0_ := Aside0.mk (ho_); have n1_ := Aside0.mk (hb); have n2_ := Aside0.mk (blk_grown BK3.out hg (Kd.R_ne HO.out BK3.out (by decide))); have n3_ := Aside0.mk (blk_grown BK6.out hg (Kd.R_ne HO.out BK6.out (by decide))); clear HO; clear HBA; clear BK3; clear BK6; have HO := n0_; have HBA := n1_; have BK3 := n2_; have BK6 := n3_; clear n0_ n1_ n2_ n3_; obtain ⟨g, cap, hv_, hgb, hgl, gcs_, hgo_⟩ := Kd.R_form ho_ (by rw [List.nil_append]; have := HTN.out; omega); rw [List.nil_append, HTN.out] at hv_; subst hv_; have HGB := Aside0.mk hgb; clear hgb hgl hgo_; have c0_ := (blk_cell BK3.out 0).trans (rfl : _ = some (.slice (some ad) n c0 : Value)); have c1_ := (blk_cell BK3.out 1).trans (rfl : _ = some (.slice (some adT) n cT : Value)); have f0_ := blk_frozen BK3.out 0; have f1_ := blk_frozen BK3.out 1;clear ho_ hb hg hat))
            rw [List.nil_append] at HO
            have HO2 := Aside0.mk (Kd.R_set HO.out BK3.out (by decide) 1 (.slice (some ⟨g, 0, none⟩) n cap))
            have BK6b := Aside0.mk (blk_far BK6.out (p := ⟨g3, 1, none⟩) HNE.out (.slice (some ⟨g, 0, none⟩) n cap))
            have BK3b : Aside0 ((w42.setCell ⟨g3, 1, none⟩ (.slice (some ⟨g, 0, none⟩) n cap)).heap[g3]? = some (.cells #[.slice (some ad) n c0, .slice (some ⟨g, 0, none⟩) n cap] 39 (0, 0))) := ⟨blk_put BK3.out 1 _ rfl⟩
            have HB2 := Aside0.mk (below_set (j := 1) (v := .slice (some ⟨g, 0, none⟩) n cap) (below_step HB.out HBA.out) HL3.out)
            have HLS := Aside0.mk HBA.out.size
            clear BK3 BK6 HO HBA c0_ c1_ f0_ f1_ HR
            generalize w42.setCell ⟨g3, 1, none⟩ (.slice (some ⟨g, 0, none⟩) n cap) = w43 at HO2 BK6b BK3b HB2 ⊢
            have c0_ := (blk_cell BK3b.out 0).trans (rfl : _ = some (.slice (some ad) n c0 : Value))
            have c1_ := (blk_cell BK3b.out 1).trans (rfl : _ = some (.slice (some ⟨g, 0, none⟩) n cap : Value))
            obtain ⟨hx28_, hf28_⟩ := Kd.R_celln 0 HO2.out (i : Int) (by omega) (by omega)
            have HPG := Aside0.mk (Kd.R_putg HO2.out (i : Int) t)
            rw [Int.toNat_natCast] at hx28_ hf28_ HPG
            go_upto_region 11 with fail
            have HO3 := Aside0.mk HPG.out.1
            have hg_ := HPG.out.2
            have BK3 := Aside0.mk (blk_grown BK3b.out hg_ (Kd.R_ne HO2.out BK3b.out (by decide)))
            have BK6 := Aside0.mk (blk_grown BK6b.out hg_ (Kd.R_ne HO2.out BK6b.out (by decide)))
            have HB3 := Aside0.mk (HB2.out.grown hg_ (below_size HB2.out) (fun k hk => by cases hk; have := HGB.out; have := HLW.out; omega))
            clear HPG hg_ hx28_ hf28_ BK3b BK6b c0_ c1_ HB2 HO2
            generalize w43.setCell ⟨g, i, none⟩ (.int .i64 t) = w44 at HO3 BK3 BK6 HB3 ⊢
            rw [← HU.out] at HO3
            have c0_ := (blk_cell BK3.out 0).trans (rfl : _ = some (.slice (some ad) n c0 : Value))
            have c1_ := (blk_cell BK3.out 1).trans (rfl : _ = some (.slice (some ⟨g, 0, none⟩) n cap : Value))
            have d0_ := (blk_cell BK6.out 0).trans (rfl : _ = some (.slice none 0 0 : Value))
            have d1_ := (blk_cell BK6.out 1).trans (rfl : _ = some (.slice none 0 0 : Value))
            have k0_ := blk_frozen BK6.out 0
            have k1_ := blk_frozen BK6.out 1
            go_wp2
            have B_ := blk_put (blk_put BK6.out 0 (.slice (some ad) n c0) rfl) 1 (.slice (some ⟨g, 0, none⟩) n cap) rfl
            have G_ := below_set (j := 1) (v := .slice (some ⟨g, 0, none⟩) n cap) (below_set (j := 0) (v := .slice (some ad) n c0) HB3.out HL6.out) HL6.out
            have R_ := Kd.R_set (Kd.R_set HO3.out BK6.out (by decide) 0 (.slice (some ad) n c0)) (blk_put BK6.out 0 (.slice (some ad) n c0) rfl) (by decide) 1 (.slice (some ⟨g, 0, none⟩) n cap)
            generalize (w44.setCell ⟨g6, 0, none⟩ (.slice (some ad) n c0)).setCell ⟨g6, 1, none⟩ (.slice (some ⟨g, 0, none⟩) n cap) = w99 at B_ G_ R_ ⊢
            have p0_ : w99.cell? ⟨g6, 0, none⟩ = some (.slice (some ad) n c0) := (blk_cell B_ 0).trans rfl
            have p1_ : w99.cell? ⟨g6, 1, none⟩ = some (.slice (some ⟨g, 0, none⟩) n cap) := (blk_cell B_ 1).trans rfl
            refine bodyPost_ret (v := .tuple #[.agg #[.slice (some ad) n c0, .slice (some ⟨g, 0, none⟩) n cap], .bool true, .int .i64 0]) (by simp [results, Try.results14, go_sem, p0_, p1_]) rfl ?_
            exact ⟨_, rfl, Kd.R_lower R_ (Nat.le_trans HBS.out HLW.out), G_⟩

      · have hv1 : (x == v) = false := by simpa using hv
        have hv2 : (x != v) = true := by simpa using hv
        have HI2 : Aside0 (∀ j, j < i + 1 → l.getD j 0 ≠ v) := ⟨fun j hj => by
          by_cases e : j = i
          · rw [e, HX.out]; exact hv
          · exact HI.out j (by omega)⟩
        go_wp2
        go_roundw
        case rel => exact ⟨i + 1, by omega, by go_num, by first | rfl | trivial, HI2⟩
        case measure => simp [intOf]; omega
    · obtain rfl : n = i := by omega
      have h3 : decide ((n : Int) < (n : Int)) = false := by simp
      have HNO := Aside0.mk (lk_no HK.out (fun j hj => HI.out j (by rw [HN.out] at hj; exact hj)))
      obtain rfl : q = (L, false, 6) := by rw [← HQ.out]; unfold see; rw [HNO.out]
      have c0_ := (blk_cell BK3.out 0).trans (rfl : _ = some (.slice (some ad) n c0 : Value))
      have c1_ := (blk_cell BK3.out 1).trans (rfl : _ = some (.slice (some adT) n cT : Value))
      have d0_ := (blk_cell BK6.out 0).trans (rfl : _ = some (.slice none 0 0 : Value))
      have d1_ := (blk_cell BK6.out 1).trans (rfl : _ = some (.slice none 0 0 : Value))
      have k0_ := blk_frozen BK6.out 0
      have k1_ := blk_frozen BK6.out 1
      go_wp2
      have B_ := blk_put (blk_put BK6.out 0 (.slice (some ad) n c0) rfl) 1 (.slice (some adT) n cT) rfl
      have G_ := below_set (j := 1) (v := .slice (some adT) n cT) (below_set (j := 0) (v := .slice (some ad) n c0) HB.out HL6.out) HL6.out
      have R_ := Kd.R_set (Kd.R_set HR.out BK6.out (by decide) 0 (.slice (some ad) n c0)) (blk_put BK6.out 0 (.slice (some ad) n c0) rfl) (by decide) 1 (.slice (some adT) n cT)
      generalize (wr.setCell ⟨g6, 0, none⟩ (.slice (some ad) n c0)).setCell ⟨g6, 1, none⟩ (.slice (some adT) n cT) = w99 at B_ G_ R_ ⊢
      have p0_ : w99.cell? ⟨g6, 0, none⟩ = some (.slice (some ad) n c0) := (blk_cell B_ 0).trans rfl
      have p1_ : w99.cell? ⟨g6, 1, none⟩ = some (.slice (some adT) n cT) := (blk_cell B_ 1).trans rfl
      refine bodyPost_ret (v := .tuple #[.agg #[.slice (some ad) n c0, .slice (some adT) n cT], .bool false, .int .i64 6]) (by simp [results, Try.results14, go_sem, p0_, p1_]) rfl ?_
      exact ⟨_, rfl, (by rw [HTS.out]; exact R_), G_⟩

end Go.Proofs.Ytegfglmnlfkolaa.Mk
