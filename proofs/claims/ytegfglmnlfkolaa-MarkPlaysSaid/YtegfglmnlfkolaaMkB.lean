/- The statements' head: the document's example holds; marks with one and with two inputs. -/
import Derived.Test.YtegfglmnlfkolaaMkA
namespace Go.Proofs.Ytegfglmnlfkolaa.Mk
open Go Go.RowKit Go.Maps Go.Proofs.YtegfglmnlfkolaaW.PrintWords Go.Proofs.YtegfglmnlfkolaaW.PrintLast Go.Proofs.YtegfglmnlfkolaaW.PrintMore
set_option linter.unusedVariables false
set_option linter.unusedSimpArgs false
theorem MkS.lower {w : World} {base base' b bm : Nat} {L : List (Int × Int)} (h : MkS w base b bm L) (hb : base' ≤ base) : MkS w base' b bm L :=
  ⟨Nat.le_trans hb h.hb, Nat.le_trans hb h.hm, h.ne, h.cell, h.map, h.good, h.len⟩
theorem new_ok (A0 : Option Addr) (c0 n : Nat) (l : List Int) (w : World) (hn : l.length = n) (hr0 : (Kd.int .i64).C w A0 n l) (hc0 : n ≤ c0) (hk : newOk l) (hi : ∀ x ∈ l, -9223372036854775808 ≤ x ∧ x ≤ 9223372036854775807) :
    Calls Try.prog 9 #[.slice A0 n c0] w fun e w' => ∃ b bm, e = .returned (.tuple #[.pointer (some ⟨b, 0, none⟩), .int .i64 0]) ∧ MkS w' w.heap.size b bm (initL l) ∧ Below w.heap.size w w' :=
  (new_any A0 c0 n l w hn hr0 hc0 (by have := hk.2.1; omega) hi).mono fun e w' ⟨h1, h2, _⟩ => by
    obtain ⟨b, bm, he, hs⟩ := h2 hk
    exact ⟨b, bm, he, hs, h1⟩
instance (l : List Int) (n : Nat) : Decidable (Rise l n) := decidable_of_iff (∀ i, i < n → i + 1 < n → l.getD i 0 < l.getD (i + 1) 0) ⟨fun h i hi => h i (by omega) hi, fun h i _ hi => h i hi⟩
instance (l : List Int) : Decidable (newOk l) := inferInstanceAs (Decidable (_ ∧ _))
theorem C_lit (k : IntKind) (e : TypeId) (w : World) (xs : List Int) (cs : Array Value) (h : cs = (nums k xs).toArray) (hm : xs.length ≤ 9223372036854775807) : (Kd.int k).C (w.alloc (.cells cs e)) (some ⟨w.heap.size, 0, none⟩) xs.length xs := by
  refine ⟨rfl, hm, fun _ => ⟨_, rfl, fun j p hj => ⟨[.int k p], rfl, rfl, fun i u hu => ?_⟩⟩⟩
  have hi : i = 0 ∧ Value.int k p = u := by
    cases i with
    | zero => simpa using hu
    | succ i => simp at hu
  obtain ⟨rfl, rfl⟩ := hi
  show World.cell? _ ((⟨w.heap.size, 0, none⟩ : Addr).add (j * 1 + 0)) = _
  rw [add_plain, Nat.mul_one, Nat.add_zero]
  have hb := heap_alloc_new w (.cells cs e)
  rw [cell_of_row _ _ _ _ _ _ hb]
  simp [h, nums, hj]
set_option maxHeartbeats 1000000 in
set_option maxRecDepth 100000 in
theorem shown_ok (w : World) : Calls Try.prog 8 #[] w fun e w' => e = .returned (.bool true) ∧ Below w.heap.size w w' := by
  have HB := Aside0.mk (Below.refl w.heap.size w)
  go_enter Try.func8, Try.ntmps8
  go_wp2_with fail
  refine (new_ok _ _ _ [2, 5] _ rfl (C_lit .i64 _ _ _ _ rfl (by simp)) (by simp) (by decide) (by intro x hx; simp at hx; omega)).mono ?_
  rintro e w1 ⟨b, bm, rfl, hr_, hb_⟩
  replace hb_ := below_step (below_alloc (Below.refl _ _) _) hb_
  have HR := Aside0.mk (hr_.lower (below_size (below_alloc HB.out _)))
  have n0_ := Aside0.mk (below_step HB.out hb_); clear HB; have HB := n0_; clear n0_; clear hr_ hb_
  go_wp2_with fail
  refine (see_any b bm _ _ 2 9 _ HR.out (by omega) (by omega) (by omega) (by omega)).mono ?_
  rintro e w2 ⟨he_, hn_, hg_⟩
  rw [show see (initL [2, 5]) 2 9 = ([(2, 9), (5, -1)], true, 0) by decide] at he_ hn_
  subst he_
  have n0_ := Aside0.mk (HR.out.from HB.out (below_size HB.out) hg_); have n1_ := Aside0.mk (hn_); clear HB; clear HR; have HB := n0_; have HR := n1_; clear n0_ n1_; clear hn_ hg_
  go_wp2_with fail
  refine (mark_any b bm _ _ _ HR.out).mono ?_
  rintro e w3 ⟨he_, hb_⟩
  rw [show mark [(2, 9), (5, -1)] = -1 by decide] at he_
  subst he_
  have n0_ := Aside0.mk (below_step HB.out hb_); have n1_ := Aside0.mk (HR.out.below hb_); clear HB; clear HR; have HB := n0_; have HR := n1_; clear n0_ n1_; clear hb_
  go_wp2_with fail
  refine (see_any b bm _ _ 5 4 _ HR.out (by omega) (by omega) (by omega) (by omega)).mono ?_
  rintro e w4 ⟨he_, hn_, hg_⟩
  rw [show see [(2, 9), (5, -1)] 5 4 = ([(2, 9), (5, 4)], true, 0) by decide] at he_ hn_
  subst he_
  have n0_ := Aside0.mk (HR.out.from HB.out (below_size HB.out) hg_); have n1_ := Aside0.mk (hn_); clear HB; clear HR; have HB := n0_; have HR := n1_; clear n0_ n1_; clear hn_ hg_
  go_wp2_with fail
  refine (mark_any b bm _ _ _ HR.out).mono ?_
  rintro e w5 ⟨he_, hb_⟩
  rw [show mark [(2, 9), (5, 4)] = 4 by decide] at he_
  subst he_
  have n0_ := Aside0.mk (below_step HB.out hb_); have n1_ := Aside0.mk (HR.out.below hb_); clear HB; clear HR; have HB := n0_; have HR := n1_; clear n0_ n1_; clear hb_
  go_wp2
  go_ret
  exact ⟨rfl, HB.out⟩
/-- The greater of a top and a time that may be. -/
def tops (t x : Int) : Int := if t < x ∧ x ≤ 1099511627776 then x else t
theorem see_one {t x : Int} (h0 : -1 ≤ t) (h1 : t ≤ 1099511627776) : (see [(3, t)] 3 x).1 = [(3, tops t x)] := by
  simp only [see, lk, if_true, tops]
  split
  · rw [if_neg (by omega)]
  · simp only [upd, List.map, if_true]
    split <;> split <;> first | rfl | omega
theorem see_two {t x : Int} (h0 : -1 ≤ t) (h1 : t ≤ 1099511627776) : (see [(3, t), (9, -1)] 3 x).1 = [(3, tops t x), (9, -1)] := by
  simp only [see, lk, if_true, tops]
  split
  · rw [if_neg (by omega)]
  · have e : (if t < x then x else t) = if t < x ∧ x ≤ 1099511627776 then x else t := by split <;> split <;> omega
    simp [upd, e]
theorem see_nine {t : Int} : see [(3, t), (9, -1)] 9 0 = ([(3, t), (9, 0)], true, 0) := by
  simp [see, lk, upd]
theorem tops_ge {t x : Int} (h0 : -1 ≤ t) (h1 : t ≤ 1099511627776) : -1 ≤ tops t x ∧ tops t x ≤ 1099511627776 := by
  unfold tops
  split <;> omega
theorem mark_one {t : Int} (h1 : t ≤ 1099511627776) : mark [(3, t)] = t := by
  simp [mark, least]; omega
theorem mark_two {t : Int} (h0 : -1 ≤ t) : mark [(3, t), (9, -1)] = -1 := by
  simp [mark, least]; omega
theorem mark_end {t : Int} : mark [(3, t), (9, 0)] = if 0 < t then 0 else t := by
  simp [mark, least]; omega
theorem seen_two {t : Int} : seen [(3, t), (9, -1)] 3 = t := by
  simp [seen, lk]
attribute [local go_sem] max2_int min2_int max_two min_two
set_option maxHeartbeats 2000000 in
set_option maxRecDepth 100000 in
theorem ones_ok (A0 : Option Addr) (c0 : Nat) (l0 : List Int) (w : World) (hr0 : (Kd.int .i64).C w A0 l0.length l0) (hc0 : l0.length ≤ c0) (hN : l0.length ≤ 4611686018427387904) (hi : ∀ x ∈ l0, -9223372036854775808 ≤ x ∧ x ≤ 9223372036854775807) :
    Calls Try.prog 5 #[.slice A0 l0.length c0] w fun e w' => e = .returned (.bool true) ∧ Below w.heap.size w w' := by
  have HC := Aside0.mk hr0
  have HI := Aside0.mk hi
  clear hr0 hi
  have HB := Aside0.mk (Below.refl w.heap.size w)
  go_enter Try.func5, Try.ntmps5
  go_wp2_with fail
  refine (shown_ok _).mono ?_
  rintro e w1 ⟨rfl, hb_⟩
  have n0_ := Aside0.mk (below_step HB.out hb_); clear HB; have HB := n0_; clear n0_; clear hb_
  go_wp2_with fail
  refine (new_ok _ _ _ [3] _ rfl (C_lit .i64 _ _ _ _ rfl (by simp)) (by simp) (by decide) (by intro x hx; simp at hx; omega)).mono ?_
  rintro e w2 ⟨b1, m1, rfl, hr_, hb_⟩
  replace hb_ := below_step (below_alloc (Below.refl _ _) _) hb_
  have HR1 := Aside0.mk (hr_.lower (below_size (below_alloc HB.out _)))
  have n0_ := Aside0.mk (below_step HB.out hb_); clear HB; have HB := n0_; clear n0_; clear hr_ hb_
  go_wp2_with fail
  refine (new_ok _ _ _ [3, 9] _ rfl (C_lit .i64 _ _ _ _ rfl (by simp)) (by simp) (by decide) (by intro x hx; simp at hx; omega)).mono ?_
  rintro e w3 ⟨b2, m2, rfl, hr_, hb_⟩
  have hne1 : m1 ≠ m2 := by have h1 := HR1.out.lt; have h2 := hr_.hm; simp at h2; omega
  replace hb_ := below_step (below_alloc (Below.refl _ _) _) hb_
  have HR2 := Aside0.mk (hr_.lower (below_size (below_alloc HB.out _)))
  have n0_ := Aside0.mk (below_step HB.out hb_); have n1_ := Aside0.mk (HR1.out.below hb_); clear HB; clear HR1; have HB := n0_; have HR1 := n1_; clear n0_ n1_; clear hr_ hb_
  go_wp2_with fail
  go_loopw [8, 9] (fun v8 v9 wr => ∃ (t : Int) (k : Nat), v8 = .int .i64 t ∧ v9 = .int .i64 (k : Int) ∧ -1 ≤ t ∧ t ≤ 1099511627776 ∧ k ≤ l0.length ∧ k ≤ 100 ∧ Aside0 (MkS wr w.heap.size b1 m1 [(3, t)]) ∧ Aside0 (MkS wr w.heap.size b2 m2 [(3, t), (9, -1)]) ∧ Aside0 (Below w.heap.size w wr)) (fun _ v9 _ => 100 - (intOf v9).toNat)
  case atStart => exact ⟨-1, 0, rfl, rfl, by omega, by omega, by omega, by omega, HR1, HR2, HB⟩
  case round =>
    clear HB HR1 HR2
    obtain ⟨t, k, rfl, rfl, t0, t1, hk, hk1, HR1, HR2, HB⟩ := hrel
    by_cases hlt : k < l0.length ∧ k < 100
    · have h1 : decide ((k : Int) < (l0.length : Int)) = true := by simp; omega
      have h1b : decide (k < l0.length) = true := by simp; omega
      have h2 : decide ((k : Int) < 100) = true := by simp; omega
      have h2b : decide (k < 100) = true := by simp; omega
      obtain ⟨ad, rfl, hx⟩ := Kd.at_int (Kd.C_below HC.out HB.out) k (by omega) (by omega)
      have hx2 : wr.cell? (ad.add k) = some (.int .i64 (rd l0 k)) := hx
      have HX := Aside0.mk (show -9223372036854775808 ≤ rd l0 k ∧ rd l0 k ≤ 9223372036854775807 from HI.out _ (by rw [rd_nat, List.getD_eq_getElem?_getD, List.getElem?_eq_getElem hlt.1]; exact List.getElem_mem _))
      have HCX := Aside0.mk (show ∀ W : World, Below w.heap.size w W → W.cell? (ad.add k) = some (.int .i64 (rd l0 k)) from fun W hW => by
        obtain ⟨ad2, e2, hx⟩ := Kd.at_int (Kd.C_below HC.out hW) k (by omega) (by omega)
        injection e2 with e2
        rw [e2]
        exact hx)
      clear hx
      generalize rd l0 k = x at *
      go_wp2_with fail
      refine (see_any b1 m1 _ _ 3 x _ HR1.out (by omega) (by omega) HX.out.1 HX.out.2).mono ?_
      rintro e w4 ⟨he_, hn_, hg_⟩
      rw [see_one t0 t1] at hn_
      subst he_
      generalize (see [(3, t)] 3 x).2.1 = s1
      generalize (see [(3, t)] 3 x).2.2 = s2
      have n0_ := Aside0.mk (HR1.out.from HB.out (below_size HB.out) hg_); have n1_ := Aside0.mk (HR2.out.other HR1.out (by omega) hg_); have n2_ := Aside0.mk (hn_); clear HB; clear HR2; clear HR1; have HB := n0_; have HR2 := n1_; have HR1 := n2_; clear n0_ n1_ n2_; clear hn_ hg_ hx2
      have hx2 := HCX.out _ HB.out
      go_wp2_with fail
      refine (see_any b2 m2 _ _ 3 x _ HR2.out (by omega) (by omega) HX.out.1 HX.out.2).mono ?_
      rintro e w5 ⟨he_, hn_, hg_⟩
      rw [see_two t0 t1] at hn_
      subst he_
      generalize (see [(3, t), (9, -1)] 3 x).2.1 = s3
      generalize (see [(3, t), (9, -1)] 3 x).2.2 = s4
      have n0_ := Aside0.mk (HR2.out.from HB.out (below_size HB.out) hg_); have n1_ := Aside0.mk (HR1.out.other HR2.out (by omega) hg_); have n2_ := Aside0.mk (hn_); clear HB; clear HR1; clear HR2; have HB := n0_; have HR1 := n1_; have HR2 := n2_; clear n0_ n1_ n2_; clear hn_ hg_ hx2
      have hx2 := HCX.out _ HB.out
      have HT := Aside0.mk (tops_ge (x := x) t0 t1)
      by_cases ht : t < x ∧ x ≤ 1099511627776
      · have ht1 : decide (t < x) = true := by simpa using ht.1
        have ht2 : decide (x ≤ 1099511627776) = true := by simpa using ht.2
        have HE := Aside0.mk (show tops t x = x by unfold tops; rw [if_pos ht])
        rw [HE.out] at HR1 HR2 HT
        clear ht
        go_wp2_with fail
        refine (mark_any b1 m1 _ _ _ HR1.out).mono ?_
        rintro e w6 ⟨he_, hb_⟩
        rw [mark_one HT.out.2] at he_
        subst he_
        have n0_ := Aside0.mk (below_step HB.out hb_); have n1_ := Aside0.mk (HR1.out.below hb_); have n2_ := Aside0.mk (HR2.out.below hb_); clear HB; clear HR1; clear HR2; have HB := n0_; have HR1 := n1_; have HR2 := n2_; clear n0_ n1_ n2_; clear hb_
        go_wp2_with fail
        refine (mark_any b2 m2 _ _ _ HR2.out).mono ?_
        rintro e w7 ⟨he_, hb_⟩
        rw [mark_two HT.out.1] at he_
        subst he_
        have n0_ := Aside0.mk (below_step HB.out hb_); have n1_ := Aside0.mk (HR1.out.below hb_); have n2_ := Aside0.mk (HR2.out.below hb_); clear HB; clear HR1; clear HR2; have HB := n0_; have HR1 := n1_; have HR2 := n2_; clear n0_ n1_ n2_; clear hb_
        go_wp2_with fail
        refine (seen_any b2 m2 _ _ 3 _ HR2.out (by omega) (by omega)).mono ?_
        rintro e w8 ⟨he_, rfl⟩
        rw [seen_two] at he_
        subst he_
        go_wp2
        go_roundw
        case rel => exact ⟨x, k + 1, rfl, by go_num, HT.out.1, HT.out.2, by omega, by omega, HR1, HR2, HB⟩
        case measure => simp [intOf]; omega
      · by_cases hu : t < x
        · have ht1 : decide (t < x) = true := by simpa using hu
          have ht2 : decide (x ≤ 1099511627776) = false := by simp; omega
          have HE := Aside0.mk (show tops t x = t by unfold tops; rw [if_neg ht])
          rw [HE.out] at HR1 HR2 HT
          clear ht
          go_wp2_with fail
          refine (mark_any b1 m1 _ _ _ HR1.out).mono ?_
          rintro e w6 ⟨he_, hb_⟩
          rw [mark_one HT.out.2] at he_
          subst he_
          have n0_ := Aside0.mk (below_step HB.out hb_); have n1_ := Aside0.mk (HR1.out.below hb_); have n2_ := Aside0.mk (HR2.out.below hb_); clear HB; clear HR1; clear HR2; have HB := n0_; have HR1 := n1_; have HR2 := n2_; clear n0_ n1_ n2_; clear hb_
          go_wp2_with fail
          refine (mark_any b2 m2 _ _ _ HR2.out).mono ?_
          rintro e w7 ⟨he_, hb_⟩
          rw [mark_two HT.out.1] at he_
          subst he_
          have n0_ := Aside0.mk (below_step HB.out hb_); have n1_ := Aside0.mk (HR1.out.below hb_); have n2_ := Aside0.mk (HR2.out.below hb_); clear HB; clear HR1; clear HR2; have HB := n0_; have HR1 := n1_; have HR2 := n2_; clear n0_ n1_ n2_; clear hb_
          go_wp2_with fail
          refine (seen_any b2 m2 _ _ 3 _ HR2.out (by omega) (by omega)).mono ?_
          rintro e w8 ⟨he_, rfl⟩
          rw [seen_two] at he_
          subst he_
          go_wp2
          go_roundw
          case rel => exact ⟨t, k + 1, rfl, by go_num, HT.out.1, HT.out.2, by omega, by omega, HR1, HR2, HB⟩
          case measure => simp [intOf]; omega
        · have ht1 : decide (t < x) = false := by simpa using hu
          have HE := Aside0.mk (show tops t x = t by unfold tops; rw [if_neg ht])
          rw [HE.out] at HR1 HR2 HT
          clear ht
          go_wp2_with fail
          refine (mark_any b1 m1 _ _ _ HR1.out).mono ?_
          rintro e w6 ⟨he_, hb_⟩
          rw [mark_one HT.out.2] at he_
          subst he_
          have n0_ := Aside0.mk (below_step HB.out hb_); have n1_ := Aside0.mk (HR1.out.below hb_); have n2_ := Aside0.mk (HR2.out.below hb_); clear HB; clear HR1; clear HR2; have HB := n0_; have HR1 := n1_; have HR2 := n2_; clear n0_ n1_ n2_; clear hb_
          go_wp2_with fail
          refine (mark_any b2 m2 _ _ _ HR2.out).mono ?_
          rintro e w7 ⟨he_, hb_⟩
          rw [mark_two HT.out.1] at he_
          subst he_
          have n0_ := Aside0.mk (below_step HB.out hb_); have n1_ := Aside0.mk (HR1.out.below hb_); have n2_ := Aside0.mk (HR2.out.below hb_); clear HB; clear HR1; clear HR2; have HB := n0_; have HR1 := n1_; have HR2 := n2_; clear n0_ n1_ n2_; clear hb_
          go_wp2_with fail
          refine (seen_any b2 m2 _ _ 3 _ HR2.out (by omega) (by omega)).mono ?_
          rintro e w8 ⟨he_, rfl⟩
          rw [seen_two] at he_
          subst he_
          go_wp2
          go_roundw
          case rel => exact ⟨t, k + 1, rfl, by go_num, HT.out.1, HT.out.2, by omega, by omega, HR1, HR2, HB⟩
          case measure => simp [intOf]; omega
    · by_cases hk2 : k < l0.length
      · have h1 : decide ((k : Int) < (l0.length : Int)) = true := by simp; omega
        have h1b : decide (k < l0.length) = true := by simp; omega
        have h2 : decide ((k : Int) < 100) = false := by simp; omega
        have h2b : decide (k < 100) = false := by simp; omega
        go_wp2_with fail
        refine (see_any b2 m2 _ _ 9 0 _ HR2.out (by omega) (by omega) (by omega) (by omega)).mono ?_
        rintro e w4 ⟨he_, hn_, hg_⟩
        rw [see_nine] at hn_ he_
        subst he_
        have n0_ := Aside0.mk (HR2.out.from HB.out (below_size HB.out) hg_); have n1_ := Aside0.mk (HR1.out.other HR2.out (by omega) hg_); have n2_ := Aside0.mk (hn_); clear HB; clear HR1; clear HR2; have HB := n0_; have HR1 := n1_; have HR2 := n2_; clear n0_ n1_ n2_; clear hn_ hg_
        go_wp2_with fail
        refine (mark_any b2 m2 _ _ _ HR2.out).mono ?_
        rintro e w5 ⟨he_, hb_⟩
        rw [mark_end] at he_
        subst he_
        have n0_ := Aside0.mk (below_step HB.out hb_); have n1_ := Aside0.mk (HR1.out.below hb_); have n2_ := Aside0.mk (HR2.out.below hb_); clear HB; clear HR1; clear HR2; have HB := n0_; have HR1 := n1_; have HR2 := n2_; clear n0_ n1_ n2_; clear hb_
        go_wp2
        all_goals go_ret
        all_goals exact ⟨rfl, HB.out⟩
      · obtain rfl : k = l0.length := by omega
        go_wp2_with fail
        refine (see_any b2 m2 _ _ 9 0 _ HR2.out (by omega) (by omega) (by omega) (by omega)).mono ?_
        rintro e w4 ⟨he_, hn_, hg_⟩
        rw [see_nine] at hn_ he_
        subst he_
        have n0_ := Aside0.mk (HR2.out.from HB.out (below_size HB.out) hg_); have n1_ := Aside0.mk (HR1.out.other HR2.out (by omega) hg_); have n2_ := Aside0.mk (hn_); clear HB; clear HR1; clear HR2; have HB := n0_; have HR1 := n1_; have HR2 := n2_; clear n0_ n1_ n2_; clear hn_ hg_
        go_wp2_with fail
        refine (mark_any b2 m2 _ _ _ HR2.out).mono ?_
        rintro e w5 ⟨he_, hb_⟩
        rw [mark_end] at he_
        subst he_
        have n0_ := Aside0.mk (below_step HB.out hb_); have n1_ := Aside0.mk (HR1.out.below hb_); have n2_ := Aside0.mk (HR2.out.below hb_); clear HB; clear HR1; clear HR2; have HB := n0_; have HR1 := n1_; have HR2 := n2_; clear n0_ n1_ n2_; clear hb_
        go_wp2
        all_goals go_ret
        all_goals exact ⟨rfl, HB.out⟩
end Go.Proofs.Ytegfglmnlfkolaa.Mk
