/- (c16) cut.Inputs, in the form of the printer's own contracts. -/
import Derived.Shelf.Lay
import Derived.Shelf.Sort.Plain
import Derived.Shelf.Slices.CompactI
import Derived.Shelf.Slices.In.SortNone
import Derived.Ground.NamesProg
import Derived.Ground.Names2Prog
import Derived.Sort.OwnSortedInts
import Derived.Test.YtlandgbhbfdekaaCtParts
import Derived.Test.YtlandgbhbfdekaaCtInpP
namespace Go.Proofs
open Go.Shelf
shelf_lay Lays.n189 Nm 189 at Try as Try.lays189
shelf_lay Lays2.n20 Nm2 20 at Try as Try.lays2n20
end Go.Proofs
namespace Go.Proofs.Ytlandgbhbfdekaa.Ex
open Go Go.RowKit Go.Proofs.YtlandgbhbfdekaaW.PrintWords Go.Proofs.YtlandgbhbfdekaaW.PrintLast Go.Proofs.YtlandgbhbfdekaaW.PrintMore
open Go.Sort hiding rd
set_option linter.unusedVariables false
set_option linter.unusedSimpArgs false
theorem sort_int (blk off cap : Nat) (zs : List Int) (w : World) (hH : Holds (Value.int .i64) w blk off zs.toArray) (hblk : blk < w.heap.size) (hsz : zs.length < 4611686018427387904) :
    Calls Try.prog 30 #[.slice (some ⟨blk, off, none⟩) zs.length cap] w fun e w' => e = .returned (.tuple #[]) ∧ ∃ n os, w' = grow (putRow (Value.int .i64) (Sort.ahead w n) blk off (zs.mergeSort fun x y => decide (x ≤ y)).toArray) os :=
  Any.slices_Sort_int Try.lays189 blk off cap zs w hH hblk hsz
theorem sort_none (p : Option Addr) (cap : Nat) (w : World) : Calls Try.prog 30 #[.slice p 0 cap] w fun e w' => e = .returned (.tuple #[]) ∧ w' = w := Any.slices_Sort_int_none Try.lays189 p cap w
theorem compact_int (blk off cap : Nat) (zs : List Int) (w : World) (hH : Holds (Value.int .i64) w blk off zs.toArray) (hsz : zs.length ≤ 9223372036854775807) (hcap : zs.length ≤ cap) :
    Calls Try.prog 31 #[.slice (some ⟨blk, off, none⟩) zs.length cap] w fun e w' => e = .returned (.slice (some ⟨blk, off, none⟩) (Lib.compact zs).length cap) ∧ ∃ q, w' = putRow (Value.int .i64) (Sort.ahead w q) blk off (Lib.compact zs ++ List.replicate (zs.length - (Lib.compact zs).length) 0).toArray :=
  Any.slices_Compact_int Try.lays2n20 blk off cap zs w hH hsz hcap
theorem compact_none (a : Option Addr) (cap : Nat) (w : World) : Calls Try.prog 31 #[.slice a 0 cap] w fun e w' => e = .returned (.slice a 0 cap) ∧ w' = w := Any.slices_Compact_int_empty Try.lays2n20 a cap w
theorem compact_le (zs : List Int) : (Lib.compact zs).length ≤ zs.length := by
  unfold Lib.compact Lib.compactUpTo
  rw [List.length_map]
  refine Nat.le_trans (List.length_filter_le _ _) ?_
  rw [List.length_range]
  exact Nat.le_refl _
theorem heap_row {w : World} {g n : Nat} {cur : Array Value} {e : TypeId} {fr : Nat × Nat} (d : Array Int) (hb : w.heap[g]? = some (.cells cur e fr)) : (putRow (Value.int .i64) (Sort.ahead w n) g 0 d).heap[g]? = some (.cells (putCells (Value.int .i64) 0 d cur) e fr) := by
  have hg : g < w.heap.size := (Array.getElem?_eq_some_iff.1 hb).1
  simp [putRow, mapBlock, Sort.ahead, Array.getElem?_modify, hb, onCells]
theorem grownBy_row {w : World} {g n : Nat} (d : Array Int) : w.grownBy (putRow (Value.int .i64) (Sort.ahead w n) g 0 d) (some g) := by
  refine ⟨rfl, rfl, rfl, by simp, fun k hk hne => ?_⟩
  have : g ≠ k := fun e => hne (by rw [e])
  simp [putRow, mapBlock, Sort.ahead, Array.getElem?_modify, this]
/-- Behind Sort and Compact: the row's head. -/
theorem R_compact {w : World} {base g cap q : Nat} {cur : Array Value} {e : TypeId} {cs : List Int} {m : Nat} (hb : w.heap[g]? = some (.cells cur e (0, 0))) (hbase : base ≤ g) (hm : cs.length ≤ m) (hc : m ≤ cap) (h2 : cap ≤ maxLen) (h3 : cur.size = cap * 1) :
    (Kd.int .i64).R e (putRow (Value.int .i64) (Sort.ahead w q) g 0 (cs ++ List.replicate (m - cs.length) 0).toArray) base (fun _ => True) (.slice (some ⟨g, 0, none⟩) cs.length cap) cs := by
  refine Kd.R_of_own ⟨by simp [encs], .inr ⟨g, cap, _, rfl, hbase, heap_row _ hb, by omega, h2, by simp [putCells, h3], ?_⟩⟩ (fun _ _ => trivial)
  have ht := take_putCellsI cur (cs ++ List.replicate (m - cs.length) 0) (by simp; omega)
  have e1 : (cs ++ List.replicate (m - cs.length) (0 : Int)).length = m := by simp; omega
  rw [e1] at ht
  have h4 := congrArg (List.take cs.length) ht
  rw [List.take_take, Nat.min_eq_left hm, List.map_append, List.take_append_of_le_length (by simp)] at h4
  rw [Nat.mul_one, h4]
  unfold encs
  rw [List.take_of_length_le (by simp)]
def IPost (w : World) (l : List Vx) (p part : Int) (e : Ending) (w' : World) : Prop :=
  ∃ v1 : Value, e = .returned v1 ∧ (Kd.int .i64).R 3 w' w.heap.size (fun _ => True) v1 (inputsOf l (if (checkOf l p).2 = 0 then partsOf l else []) part) ∧ Below w.heap.size w w'
theorem parts_f (l : List Vx) (p : Int) (hv : okV l = true) {ps : List Int} (h : (if (checkOf l p).2 = 0 then partsOf l else []) = ps) : cut_Parts.f l p = some (ps, (checkOf l p).2) := by
  unfold cut_Parts.f
  rw [if_pos hv]
  by_cases h0 : (checkOf l p).2 = 0
  · rw [if_pos h0] at h ⊢
    rw [h, h0]
  · rw [if_neg h0] at h ⊢
    rw [h]
theorem runP_len {l : List Vx} {fin ls : List Int} (h : PInv l fin ls) (hr : InR l) : fin.length = l.length := by
  obtain ⟨k, h1, h2⟩ := h.run
  induction k generalizing ls with
  | zero => omega
  | succ k ih =>
    rw [runP] at h2
    cases hf : (edges l).find? (hitB l ls) with
    | none => rw [hf] at h2; rw [← h2]; exact h.len
    | some p =>
      rw [hf] at h2
      have hlt := hit_lt h hr hf
      exact ih (h.step hr hf) (by omega) h2
theorem parts_len {l : List Vx} {p : Int} (h : (checkOf l p).2 = 0) : (partsOf l).length = l.length := by
  have h1 := check_inr h
  unfold partsOf
  rw [List.length_map]
  exact runP_len (PInv.start h1.2.2) h1.1
theorem inputs_eq {l : List Vx} {p part : Int} {ps : List Int} (h : 0 < ps.length → (checkOf l p).2 = 0 ∧ ps.length = l.length ∧ l.length ≤ 24) : Lib.compact ((gTo l ps part ps.length).mergeSort fun x y => decide (x ≤ y)) = inputsOf l ps part := by
  rcases Nat.eq_zero_or_pos ps.length with h0 | h0
  · obtain rfl := List.length_eq_zero_iff.1 h0
    rw [inputs_none, show gTo l [] part ([] : List Int).length = [] from rfl, List.mergeSort_nil]
    rfl
  · exact sorted_inputs (h h0).1 (h h0).2.1
set_option maxHeartbeats 4000000 in
set_option maxRecDepth 1000000 in
theorem inputs_ok (A0 : Option Addr) (c0 : Nat) (l : List Vx) (p part : Int) (w : World) (hr0 : k37.C w A0 l.length l) (hc0 : l.length ≤ c0) (hv : okV l = true) :
    Calls Try.prog 16 #[.agg #[.slice A0 l.length c0, .int .i64 p], .int .i64 part] w (IPost w l p part) := by
  have HC := Aside0.mk hr0
  have HCC := Aside0.mk hc0
  obtain ⟨ps, HPS⟩ : ∃ y, Aside0 ((if (checkOf l p).2 = 0 then partsOf l else []) = y) := ⟨_, ⟨rfl⟩⟩
  have HPF := Aside0.mk (parts_f l p hv HPS.out)
  have HOK : Aside0 (0 < ps.length → (checkOf l p).2 = 0 ∧ ps.length = l.length ∧ l.length ≤ 24) := ⟨fun h => by
    have h1 := HPS.out
    by_cases h0 : (checkOf l p).2 = 0
    · rw [if_pos h0] at h1
      exact ⟨h0, by rw [← h1]; exact parts_len h0, (check_inr h0).2.2⟩
    · rw [if_neg h0] at h1
      rw [← h1] at h
      simp at h⟩
  clear hr0 hc0 hv
  unfold IPost
  rw [HPS.out]
  obtain ⟨ce, HCE⟩ : ∃ y, Aside0 ((checkOf l p).2 = y) := ⟨_, ⟨rfl⟩⟩
  rw [HCE.out] at HPF
  go_enter Try.func16, Try.ntmps16
  go_upto_region 1 with fail
  have BK1 := Aside0.mk (heap_alloc_new w (.cells #[.slice A0 l.length c0, .int .i64 p] 24))
  have HB := Aside0.mk (below_alloc (Below.refl w.heap.size w) (.cells #[.slice A0 l.length c0, .int .i64 p] 24))
  generalize w.alloc (.cells #[.slice A0 l.length c0, .int .i64 p] 24) = w1 at BK1 HB ⊢
  obtain ⟨g1, HG1⟩ : ∃ g, Aside0 (w.heap.size = g) := ⟨_, ⟨rfl⟩⟩
  rw [HG1.out]
  replace BK1 : Aside0 (w1.heap[g1]? = some (.cells #[.slice A0 l.length c0, .int .i64 p] 24 (0, 0))) := ⟨by rw [← HG1.out]; exact BK1.out⟩
  have c0_ := (blk_cell BK1.out 0).trans (rfl : _ = some (.slice A0 l.length c0 : Value))
  have c1_ := (blk_cell BK1.out 1).trans (rfl : _ = some (.int .i64 p : Value))
  go_wp2_with fail
  refine (cut_Parts.calls A0 c0 l p ps ce w1 (Kd.C_below HC.out HB.out) HCC.out HPF.out).mono ?_
  rintro e w2 ⟨v5, rfl, hR5, hb_⟩
  have BK2 := Aside0.mk (blk_below BK1.out hb_)
  have HBW := Aside0.mk (below_step HB.out hb_)
  have HSZ := Aside0.mk (below_size HBW.out)
  clear c0_ c1_ BK1 HB hb_
  obtain ⟨A5, c5, rfl⟩ := Kd.R_slice hR5
  have HP5 := Aside0.mk (Kd.R_reads' hR5).2.2
  clear hR5
  have HB2 := Aside0.mk (Below.refl w2.heap.size w2)
  have hm5 : ps.length ≤ 9223372036854775807 := HP5.out.2.1
  go_wp2_with fail
  go_loopw [7, 19] (fun v7 v19 wr => ∃ i : Nat, i ≤ ps.length ∧ v19 = .int .i64 (i : Int) ∧ Aside0 ((Kd.int .i64).R 3 wr w2.heap.size (fun _ => True) v7 (gTo l ps part i)) ∧ Aside0 (Below w2.heap.size w2 wr)) (fun _ v19 _ => ps.length - (intOf v19).toNat)
  case atStart => exact ⟨0, by omega, rfl, ⟨Kd.R_nil _ _ _ _ _⟩, HB2⟩
  case round =>
    clear HB2
    obtain ⟨i, hi, rfl, HR, HB2⟩ := hrel
    by_cases hlt : i < ps.length
    · have h3 : decide ((i : Int) < (ps.length : Int)) = true := by simp; omega
      have h3b : decide (i < ps.length) = true := by simp; omega
      have HO3 := HOK.out (by omega)
      have HCK := Aside0.mk HO3.1
      have HIL : Aside0 (i < l.length) := ⟨by have := HO3.2.1; omega⟩
      have HGL : Aside0 ((gTo l ps part i).length ≤ 72) := ⟨by have h1 := gTo_len (ps := ps) (part := part) HO3.1 i (by omega); have := HO3.2.2; omega⟩
      clear HO3
      obtain ⟨a5, hA5, y5⟩ := Kd.at_int (Kd.C_below HP5.out HB2.out) (i : Int) (by omega) (by omega)
      obtain ⟨q, HQ⟩ : ∃ x, Aside0 (rd ps (i : Int) = x) := ⟨_, ⟨rfl⟩⟩
      rw [HQ.out] at y5
      simp only [Int.toNat_natCast] at y5
      subst hA5
      have HQD : Aside0 (ps.getD i 0 = q) := ⟨by rw [← HQ.out]; unfold rd; rw [Int.toNat_natCast]⟩
      by_cases hq : q = part
      · have hqb : (q != part) = false := by simpa using hq
        have HWB := Aside0.mk (below_step HBW.out HB2.out)
        obtain ⟨ad, A1, c1, A4, c4, hA0, x0, x1, x2, x3, x4, x5, l1, r1, l4, r4⟩ := at_T37 HC.out (i : Int) (by omega) (by have := HIL.out; omega)
        subst hA0
        obtain ⟨v, HVV⟩ : ∃ v, Aside0 (rd_T37 l (i : Int) = v) := ⟨_, ⟨rfl⟩⟩
        rw [HVV.out] at x0 x1 x2 x3 x4 x5 l1 r1 l4 r4
        simp only [Int.toNat_natCast] at x0 x1 x2 x3 x4 x5
        have R1 := Aside0.mk r1
        have X1 := Aside0.mk x1
        clear l1 r1 l4 r4 x1 x2 x3 x4 x5
        replace x0 := pw_cell_below HWB.out x0
        have hiL : (i : Int) < (l.length : Int) := by have := HIL.out; omega
        have hiLb : decide ((i : Int) < (l.length : Int)) = true := by simpa using hiL
        have hiLc : i < l.length := HIL.out
        have c0_ := (blk_cell (blk_below BK2.out HB2.out) 0).trans (rfl : _ = some (.slice (some ad) l.length c0 : Value))
        by_cases hk : v.f0 = 1
        · have hkb : (v.f0 == 1) = true := by simpa using hk
          have HLEN : Aside0 ((gTo l ps part i).length ≤ 72) := HGL
          have HL1 : Aside0 ((gTo l ps part i ++ [(i : Int)]).length ≤ 80) := ⟨by rw [List.length_append]; have := HGL.out; simp; omega⟩
          have HONE : Aside0 (gTo l ps part i ++ [(i : Int)] ++ v.f1.filter (fiveB l) = gTo l ps part (i + 1)) := ⟨by rw [gTo_succ, HQD.out, List.append_assoc]; unfold gOne; rw [if_pos hq, show vAt l (i : Int) = v from HVV.out, if_pos hk]⟩
          have HBK := Aside0.mk (show ∀ j, u7.ownBlock = some j → w2.heap.size ≤ j from fun j hj => Kd.R_base HR.out j hj)
          clear hk
          go_upto_region 9 with (((with_reducible refine gate_builtin (b := .append) (xs := #[.tmp 34, .tmp 36]) rfl ?_); at_builtin; refine Kd.R_append (Kd.int .i64) (w0 := wr) w2.heap.size rfl (.tmp 34) (.tmp 36) 35 3 (.int .i64 0) 8 rfl Try.underlying35 infoI3 rfl (by decide) (by omega) u7 (gTo l ps part i) (i : Int) [.int .i64 (i : Int)] (fun _ => True) (fun _ => False) rfl rfl ?aP (fun _ hk => hk.elim) (fun _ _ => trivial) ?aO ?aB ?aS ?aL ?_; (try (case aP => exact rfl)); (case aB => exact (Below.refl _ _)); (case aO => exact (by (with_reducible repeat (first | apply Kd.R_alloc | apply Kd.R_drewN | apply Kd.R_drew)); exact HR.out)); (case aS => exact (below_size HB2.out)); (case aL => have := HLEN.out; omega); intro v37 w19 ho_ hb hg hat; have n0_ := Aside0.mk (ho_); clear HR; have HR := n0_; clear n0_; have HG9 := Aside0.mk hg; have HB9 := Aside0.mk (HB2.out.grown hg (below_size HB2.out) (fun j hj => by have := HBK.out j hj; omega)); clear ho_ hb hg hat))
          clear HB2 x0 y5
          have HB2 := HB9
          clear HB9
          replace HWB := Aside0.mk (below_step HBW.out HB2.out)
          have x1 := pw_cell_below HWB.out X1.out
          have c0_ := (blk_cell (blk_below BK2.out HB2.out) 0).trans (rfl : _ = some (.slice (some ad) l.length c0 : Value))
          go_wp2_with fail
          clear x1 c0_ h3 h3b hqb hkb
          obtain ⟨xs1, HX1⟩ : ∃ y, Aside0 ((gTo l ps part i ++ [(i : Int)]) = y) := ⟨_, ⟨rfl⟩⟩
          rw [HX1.out] at HR HL1
          go_loopw [7, 45] (fun v7 v45 wr => ∃ k : Nat, k ≤ v.f1.length ∧ v45 = .int .i64 (k : Int) ∧ Aside0 ((Kd.int .i64).R 3 wr w2.heap.size (fun _ => True) v7 (xs1 ++ (v.f1.take k).filter (fiveB l))) ∧ Aside0 (Below w2.heap.size w2 wr)) (fun _ v45 _ => v.f1.length - (intOf v45).toNat)
          case atStart => exact ⟨0, by omega, rfl, ⟨by rw [List.take_zero, List.filter_nil, List.append_nil]; exact HR.out⟩, HB2⟩
          case round =>
            clear HR HB2
            obtain ⟨k, hk, rfl, HR, HB2⟩ := hrel
            by_cases hkl : k < v.f1.length
            · have h4 : decide ((k : Int) < (v.f1.length : Int)) = true := by simp; omega
              have h4b : decide (k < v.f1.length) = true := by simp; omega
              have hm1 : v.f1.length ≤ 9223372036854775807 := R1.out.2.1
              have HWB := Aside0.mk (below_step HBW.out HB2.out)
              obtain ⟨a1, hA1, y0⟩ := Kd.at_int (Kd.C_below R1.out HWB.out) (k : Int) (by omega) (by omega)
              obtain ⟨x, HX⟩ : ∃ x, Aside0 (rd v.f1 (k : Int) = x) := ⟨_, ⟨rfl⟩⟩
              rw [HX.out] at y0
              simp only [Int.toNat_natCast] at y0
              subst hA1
              have HXM : Aside0 (v.f1[k] = x) := ⟨by rw [← HX.out]; unfold rd; rw [Int.toNat_natCast, List.getD_eq_getElem?_getD, List.getElem?_eq_getElem hkl]; rfl⟩
              have HXR : Aside0 (0 ≤ x ∧ x < (l.length : Int)) := ⟨at_from HCK.out HIL.out (by rw [show vAt l (i : Int) = v from HVV.out, ← HXM.out]; exact List.getElem_mem _)⟩
              have x0_ := HXR.out.1
              have x1_ := HXR.out.2
              have x1b_ : decide (x < (l.length : Int)) = true := by simpa using x1_
              have x0b_ : decide (0 ≤ x) = true := by simpa using x0_
              obtain ⟨ad3, _, _, _, _, hA3, z0, _⟩ := at_T37 HC.out x x0_ x1_
              injection hA3 with hA3
              subst hA3
              replace z0 := pw_cell_below HWB.out z0
              obtain ⟨kf, HKF⟩ : ∃ kf, Aside0 ((vAt l x).f0 = kf) := ⟨_, ⟨rfl⟩⟩
              rw [show (rd_T37 l x).f0 = kf from HKF.out] at z0
              have c0_ := (blk_cell (blk_below BK2.out HB2.out) 0).trans (rfl : _ = some (.slice (some ad) l.length c0 : Value))
              obtain ⟨xs2, HX2⟩ : ∃ y, Aside0 (xs1 ++ (v.f1.take k).filter (fiveB l) = y) := ⟨_, ⟨rfl⟩⟩
              rw [HX2.out] at HR
              have HLEN : Aside0 (xs2.length ≤ 200) := ⟨by
                rw [← HX2.out, List.length_append]
                have h1 := List.length_filter_le (fiveB l) (v.f1.take k)
                rw [List.length_take] at h1
                have h2 := HL1.out
                have h3 := at_few HCK.out HIL.out
                rw [show vAt l (i : Int) = v from HVV.out] at h3
                omega⟩
              have HTK : Aside0 (v.f1.take (k + 1) = v.f1.take k ++ [x]) := ⟨by rw [List.take_succ_eq_append_getElem hkl, HXM.out]⟩
              by_cases h5 : kf = 5
              · have h5b : (kf == 5) = true := by simpa using h5
                have HNX : Aside0 (xs1 ++ (v.f1.take (k + 1)).filter (fiveB l) = xs2 ++ [x]) := ⟨by rw [HTK.out, List.filter_append, ← List.append_assoc, HX2.out, List.filter_cons_of_pos (by unfold fiveB; rw [HKF.out, h5]; rfl), List.filter_nil]⟩
                have HBK := Aside0.mk (show ∀ j, u7.ownBlock = some j → w2.heap.size ≤ j from fun j hj => Kd.R_base HR.out j hj)
                clear h5
                go_wp2_with (((with_reducible refine gate_builtin (b := .append) (xs := #[.tmp 56, .tmp 58]) rfl ?_); at_builtin; refine Kd.R_append (Kd.int .i64) (w0 := wr) w2.heap.size rfl (.tmp 56) (.tmp 58) 35 3 (.int .i64 0) 8 rfl Try.underlying35 infoI3 rfl (by decide) (by omega) u7 xs2 x [.int .i64 x] (fun _ => True) (fun _ => False) rfl rfl ?aP (fun _ hk => hk.elim) (fun _ _ => trivial) ?aO ?aB ?aS ?aL ?_; (try (case aP => exact rfl)); (case aB => exact (Below.refl _ _)); (case aO => exact (by (with_reducible repeat (first | apply Kd.R_alloc | apply Kd.R_drewN | apply Kd.R_drew)); exact HR.out)); (case aS => exact (below_size HB2.out)); (case aL => have := HLEN.out; omega); intro v59 w19 ho_ hb hg hat; have n0_ := Aside0.mk (ho_); clear HR; have HR := n0_; clear n0_; have HG9 := Aside0.mk hg; have HB9 := Aside0.mk (HB2.out.grown hg (below_size HB2.out) (fun j hj => by have := HBK.out j hj; omega)); clear ho_ hb hg hat))
                go_roundw
                case rel => exact ⟨k + 1, by omega, by go_num, ⟨by rw [HNX.out]; exact HR.out⟩, HB9⟩
                case measure => simp [intOf]; omega
              · have h5b : (kf == 5) = false := by simpa using h5
                have HNX : Aside0 (xs1 ++ (v.f1.take (k + 1)).filter (fiveB l) = xs2) := ⟨by rw [HTK.out, List.filter_append, ← List.append_assoc, HX2.out, List.filter_cons_of_neg (by unfold fiveB; rw [HKF.out]; simpa using h5b), List.filter_nil, List.append_nil]⟩
                clear h5
                go_wp2_with fail
                go_roundw
                case rel => exact ⟨k + 1, by omega, by go_num, ⟨by rw [HNX.out]; exact HR.out⟩, HB2⟩
                case measure => simp [intOf]; omega
            · obtain rfl : v.f1.length = k := by omega
              have h4 : decide ((v.f1.length : Int) < (v.f1.length : Int)) = false := by simp
              rw [List.take_length, ← HX1.out, HONE.out] at HR
              go_wp2_with fail
              go_roundw
              case rel => exact ⟨i + 1, by omega, by go_num, HR, HB2⟩
              case measure => simp [intOf]; omega
        · have hkb : (v.f0 == 1) = false := by simpa using hk
          have HL1 : Aside0 ((gTo l ps part i).length ≤ 80) := ⟨by have := HGL.out; omega⟩
          have HONE : Aside0 (gTo l ps part i ++ v.f1.filter (fiveB l) = gTo l ps part (i + 1)) := ⟨by rw [gTo_succ, HQD.out]; unfold gOne; rw [if_pos hq, show vAt l (i : Int) = v from HVV.out, if_neg hk, List.nil_append]⟩
          have x1 := pw_cell_below HWB.out X1.out
          clear hk
          go_wp2_with fail
          clear x0 x1 y5 c0_ h3 h3b hqb hkb
          obtain ⟨xs1, HX1⟩ : ∃ y, Aside0 ((gTo l ps part i) = y) := ⟨_, ⟨rfl⟩⟩
          rw [HX1.out] at HR HL1
          go_loopw [7, 45] (fun v7 v45 wr => ∃ k : Nat, k ≤ v.f1.length ∧ v45 = .int .i64 (k : Int) ∧ Aside0 ((Kd.int .i64).R 3 wr w2.heap.size (fun _ => True) v7 (xs1 ++ (v.f1.take k).filter (fiveB l))) ∧ Aside0 (Below w2.heap.size w2 wr)) (fun _ v45 _ => v.f1.length - (intOf v45).toNat)
          case atStart => exact ⟨0, by omega, rfl, ⟨by rw [List.take_zero, List.filter_nil, List.append_nil]; exact HR.out⟩, HB2⟩
          case round =>
            clear HR HB2
            obtain ⟨k, hk, rfl, HR, HB2⟩ := hrel
            by_cases hkl : k < v.f1.length
            · have h4 : decide ((k : Int) < (v.f1.length : Int)) = true := by simp; omega
              have h4b : decide (k < v.f1.length) = true := by simp; omega
              have hm1 : v.f1.length ≤ 9223372036854775807 := R1.out.2.1
              have HWB := Aside0.mk (below_step HBW.out HB2.out)
              obtain ⟨a1, hA1, y0⟩ := Kd.at_int (Kd.C_below R1.out HWB.out) (k : Int) (by omega) (by omega)
              obtain ⟨x, HX⟩ : ∃ x, Aside0 (rd v.f1 (k : Int) = x) := ⟨_, ⟨rfl⟩⟩
              rw [HX.out] at y0
              simp only [Int.toNat_natCast] at y0
              subst hA1
              have HXM : Aside0 (v.f1[k] = x) := ⟨by rw [← HX.out]; unfold rd; rw [Int.toNat_natCast, List.getD_eq_getElem?_getD, List.getElem?_eq_getElem hkl]; rfl⟩
              have HXR : Aside0 (0 ≤ x ∧ x < (l.length : Int)) := ⟨at_from HCK.out HIL.out (by rw [show vAt l (i : Int) = v from HVV.out, ← HXM.out]; exact List.getElem_mem _)⟩
              have x0_ := HXR.out.1
              have x1_ := HXR.out.2
              have x1b_ : decide (x < (l.length : Int)) = true := by simpa using x1_
              have x0b_ : decide (0 ≤ x) = true := by simpa using x0_
              obtain ⟨ad3, _, _, _, _, hA3, z0, _⟩ := at_T37 HC.out x x0_ x1_
              injection hA3 with hA3
              subst hA3
              replace z0 := pw_cell_below HWB.out z0
              obtain ⟨kf, HKF⟩ : ∃ kf, Aside0 ((vAt l x).f0 = kf) := ⟨_, ⟨rfl⟩⟩
              rw [show (rd_T37 l x).f0 = kf from HKF.out] at z0
              have c0_ := (blk_cell (blk_below BK2.out HB2.out) 0).trans (rfl : _ = some (.slice (some ad) l.length c0 : Value))
              obtain ⟨xs2, HX2⟩ : ∃ y, Aside0 (xs1 ++ (v.f1.take k).filter (fiveB l) = y) := ⟨_, ⟨rfl⟩⟩
              rw [HX2.out] at HR
              have HLEN : Aside0 (xs2.length ≤ 200) := ⟨by
                rw [← HX2.out, List.length_append]
                have h1 := List.length_filter_le (fiveB l) (v.f1.take k)
                rw [List.length_take] at h1
                have h2 := HL1.out
                have h3 := at_few HCK.out HIL.out
                rw [show vAt l (i : Int) = v from HVV.out] at h3
                omega⟩
              have HTK : Aside0 (v.f1.take (k + 1) = v.f1.take k ++ [x]) := ⟨by rw [List.take_succ_eq_append_getElem hkl, HXM.out]⟩
              by_cases h5 : kf = 5
              · have h5b : (kf == 5) = true := by simpa using h5
                have HNX : Aside0 (xs1 ++ (v.f1.take (k + 1)).filter (fiveB l) = xs2 ++ [x]) := ⟨by rw [HTK.out, List.filter_append, ← List.append_assoc, HX2.out, List.filter_cons_of_pos (by unfold fiveB; rw [HKF.out, h5]; rfl), List.filter_nil]⟩
                have HBK := Aside0.mk (show ∀ j, u7.ownBlock = some j → w2.heap.size ≤ j from fun j hj => Kd.R_base HR.out j hj)
                clear h5
                go_wp2_with (((with_reducible refine gate_builtin (b := .append) (xs := #[.tmp 56, .tmp 58]) rfl ?_); at_builtin; refine Kd.R_append (Kd.int .i64) (w0 := wr) w2.heap.size rfl (.tmp 56) (.tmp 58) 35 3 (.int .i64 0) 8 rfl Try.underlying35 infoI3 rfl (by decide) (by omega) u7 xs2 x [.int .i64 x] (fun _ => True) (fun _ => False) rfl rfl ?aP (fun _ hk => hk.elim) (fun _ _ => trivial) ?aO ?aB ?aS ?aL ?_; (try (case aP => exact rfl)); (case aB => exact (Below.refl _ _)); (case aO => exact (by (with_reducible repeat (first | apply Kd.R_alloc | apply Kd.R_drewN | apply Kd.R_drew)); exact HR.out)); (case aS => exact (below_size HB2.out)); (case aL => have := HLEN.out; omega); intro v59 w19 ho_ hb hg hat; have n0_ := Aside0.mk (ho_); clear HR; have HR := n0_; clear n0_; have HG9 := Aside0.mk hg; have HB9 := Aside0.mk (HB2.out.grown hg (below_size HB2.out) (fun j hj => by have := HBK.out j hj; omega)); clear ho_ hb hg hat))
                go_roundw
                case rel => exact ⟨k + 1, by omega, by go_num, ⟨by rw [HNX.out]; exact HR.out⟩, HB9⟩
                case measure => simp [intOf]; omega
              · have h5b : (kf == 5) = false := by simpa using h5
                have HNX : Aside0 (xs1 ++ (v.f1.take (k + 1)).filter (fiveB l) = xs2) := ⟨by rw [HTK.out, List.filter_append, ← List.append_assoc, HX2.out, List.filter_cons_of_neg (by unfold fiveB; rw [HKF.out]; simpa using h5b), List.filter_nil, List.append_nil]⟩
                clear h5
                go_wp2_with fail
                go_roundw
                case rel => exact ⟨k + 1, by omega, by go_num, ⟨by rw [HNX.out]; exact HR.out⟩, HB2⟩
                case measure => simp [intOf]; omega
            · obtain rfl : v.f1.length = k := by omega
              have h4 : decide ((v.f1.length : Int) < (v.f1.length : Int)) = false := by simp
              rw [List.take_length, ← HX1.out, HONE.out] at HR
              go_wp2_with fail
              go_roundw
              case rel => exact ⟨i + 1, by omega, by go_num, HR, HB2⟩
              case measure => simp [intOf]; omega
      · have hqb : (q != part) = true := by simpa using hq
        have HONE : Aside0 (gTo l ps part i = gTo l ps part (i + 1)) := ⟨by rw [gTo_succ, HQD.out]; unfold gOne; rw [if_neg hq, List.append_nil]⟩
        go_wp2_with fail
        go_roundw
        case rel => exact ⟨i + 1, by omega, by go_num, ⟨by rw [← HONE.out]; exact HR.out⟩, HB2⟩
        case measure => simp [intOf]; omega
    · obtain rfl : ps.length = i := by omega
      have h3 : decide ((ps.length : Int) < (ps.length : Int)) = false := by simp
      clear hi hlt
      have HEQ := Aside0.mk (inputs_eq (l := l) (p := p) (part := part) (ps := ps) HOK.out)
      have HWB := Aside0.mk (below_step HBW.out HB2.out)
      have HZL : Aside0 ((gTo l ps part ps.length).length ≤ 80) := ⟨by
        rcases Nat.eq_zero_or_pos ps.length with h0 | h0
        · rw [h0, gTo_zero]; simp
        · have h1 := HOK.out h0
          have h2 := gTo_len (ps := ps) (part := part) h1.1 ps.length (by omega)
          omega⟩
      obtain ⟨zs, HZ⟩ : ∃ y, Aside0 (gTo l ps part ps.length = y) := ⟨_, ⟨rfl⟩⟩
      rw [HZ.out] at HR HEQ HZL
      rcases (Kd.own_of_R HR.out).2 with ⟨hu7, h0⟩ | ⟨g, cap, cur, hu7, hgb, hblk, hn1, hn2, hn3, ht⟩
      · have hz := List.length_eq_zero_iff.1 h0
        subst hu7 hz
        have HE0 : Aside0 (inputsOf l ps part = []) := ⟨by rw [← HEQ.out, List.mergeSort_nil]; rfl⟩
        clear h0
        go_wp2_with fail
        refine (sort_none none 0 _).mono ?_
        rintro e w3 ⟨rfl, rfl⟩
        go_wp2_with fail
        refine (compact_none none 0 _).mono ?_
        rintro e w3 ⟨rfl, rfl⟩
        go_wp2_with fail
        go_ret
        exact ⟨_, rfl, by rw [HE0.out]; exact Kd.R_nil _ _ _ _ _, HWB.out⟩
      · subst hu7
        have HH := Aside0.mk (holds_of_blockI hblk (show cur.toList.take zs.length = zs.map (Value.int .i64) by rw [Nat.mul_one] at ht; exact ht))
        have hlt : g < wr.heap.size := (Array.getElem?_eq_some_iff.1 hblk).1
        have HBL := Aside0.mk hblk
        have HN := Aside0.mk (show w2.heap.size ≤ g ∧ zs.length ≤ cap ∧ cap ≤ maxLen ∧ cur.size = cap * 1 from ⟨hgb, hn1, hn2, hn3⟩)
        clear hgb hblk hn1 hn2 hn3 ht HR
        have hzl := HZL.out
        have HLT := Aside0.mk hlt
        clear hlt
        go_wp2_with fail
        refine (sort_int g 0 cap zs _ HH.out HLT.out (by omega)).mono ?_
        rintro e w3 ⟨rfl, n, os, rfl⟩
        obtain ⟨ss, HSS⟩ : ∃ y, Aside0 ((zs.mergeSort fun x y => decide (x ≤ y)) = y) := ⟨_, ⟨rfl⟩⟩
        have HSL : Aside0 (ss.length = zs.length) := ⟨by rw [← HSS.out, List.length_mergeSort]⟩
        rw [HSS.out] at HEQ ⊢
        have HBL3 := Aside0.mk (heap_sortedI (n := n) (os := os) ss.toArray HBL.out)
        have HH3 := Aside0.mk (holds_of_blockI HBL3.out (take_putCellsI cur ss (by have := HN.out; have := HSL.out; omega)))
        have HB3 := Aside0.mk (HWB.out.grown (grownBy_sortedI (n := n) (os := os) (g := g) ss.toArray) (below_size HWB.out) (fun k hk => by injection hk with hk; have := HN.out.1; have := HSZ.out; omega))
        have HCS : Aside0 ((putCells (Value.int .i64) 0 ss.toArray cur).size = cap * 1) := ⟨by have := HN.out.2.2.2; simp [putCells]; omega⟩
        generalize putCells (Value.int .i64) 0 ss.toArray cur = cur3 at HBL3 HCS
        generalize grow (putRow (Value.int .i64) (Sort.ahead wr n) g 0 ss.toArray) os = w3 at HBL3 HH3 HB3 ⊢
        go_wp2_with fail
        have hcm := compact_int g 0 cap ss w3 HH3.out (by have := HSL.out; omega) (by have := HSL.out; have := HN.out; omega)
        rw [HSL.out] at hcm
        refine hcm.mono ?_
        rintro e w4 ⟨rfl, q, rfl⟩
        clear hcm
        have HR4 := Aside0.mk (R_compact (q := q) (cs := Lib.compact ss) (m := zs.length) HBL3.out (show w.heap.size ≤ g by have := HN.out.1; have := HSZ.out; omega) (by rw [← HSL.out]; exact compact_le ss) HN.out.2.1 HN.out.2.2.1 HCS.out)
        have HB4 := Aside0.mk (HB3.out.grown (grownBy_row (n := q) (g := g) (Lib.compact ss ++ List.replicate (zs.length - (Lib.compact ss).length) 0).toArray) (below_size HB3.out) (fun k hk => by injection hk with hk; have := HN.out.1; have := HSZ.out; omega))
        rw [HEQ.out] at HR4 HB4 ⊢
        generalize putRow (Value.int .i64) (Sort.ahead w3 q) g 0 (inputsOf l ps part ++ List.replicate (zs.length - (inputsOf l ps part).length) 0).toArray = w4 at HR4 HB4 ⊢
        go_wp2_with fail
        go_ret
        exact ⟨_, rfl, HR4.out, HB4.out⟩
theorem cut_Inputs.calls (A0 : Option Addr) (c0 : Nat) (l0 : List Vx) (a1 a2 : Int) (r : List Int) (w : World) (hr0 : Kd.C k37 w A0 l0.length l0) (hc0 : l0.length ≤ c0) (h : cut_Inputs.f l0 a1 a2 = some r) :
    Calls Try.prog 16 #[.agg #[.slice A0 l0.length c0, .int .i64 a1], .int .i64 a2] w fun e w' => ∃ v0_ : Value, e = .returned (v0_) ∧ Kd.R (Kd.int .i64) 3 w' w.heap.size (fun _ => True) v0_ r ∧ Below w.heap.size w w' := by
  unfold cut_Inputs.f at h
  split at h
  · rename_i hv
    have h1 := Option.some.inj h
    subst h1
    exact inputs_ok A0 c0 l0 a1 a2 w hr0 hc0 hv
  · cases h
end Go.Proofs.Ytlandgbhbfdekaa.Ex
