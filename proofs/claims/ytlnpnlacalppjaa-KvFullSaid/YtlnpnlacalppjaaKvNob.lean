/- The statements KvNobody, KvFull. -/
import Derived.Test.YtlnpnlacalppjaaKvShown
namespace Go.Proofs.Ytlnpnlacalppjaa.Kv
open Go Go.RowKit Go.Proofs.YtlnpnlacalppjaaW.PrintWords Go.Proofs.YtlnpnlacalppjaaW.PrintLast Go.Proofs.YtlnpnlacalppjaaW.PrintMore Go.Proofs.Ytlnpnlacalppjaa.Rw Go.Proofs.Ytlnpnlacalppjaa.Ex
set_option linter.unusedVariables false
set_option linter.unusedSimpArgs false
structure FB (w0 w : World) (g : Nat) (cs : Array Value) : Prop where
  b : Below w0.heap.size w0 w
  r : w.heap[g]? = some (.cells cs 30 (0, 0))
  l : w0.heap.size ≤ g
theorem FB.put {w0 w : World} {g : Nat} {cs cs' : Array Value} (h : FB w0 w g cs) (j : Nat) (u : Value) (e : cs.setIfInBounds j u = cs') : FB w0 (w.setCell ⟨g, j, none⟩ u) g cs' := ⟨below_set h.b h.l, blk_put h.r j u e, h.l⟩
theorem FB.below {w0 w w1 : World} {g : Nat} {cs : Array Value} (h : FB w0 w g cs) (hb : Below w.heap.size w w1) : FB w0 w1 g cs := ⟨below_step h.b hb, blk_below h.r hb, h.l⟩
theorem put_nil (k x : Int) (w : World) : Calls Try.prog 11 #[.pointer none, .int .i64 k, .int .i64 x] w fun e w' => e = .returned (.tuple #[.agg #[.int .i64 0, .int .i64 0, .int .i64 0, .int .i64 0, .bool false], .int .i64 3]) ∧ Below w.heap.size w w' := by
  go_enter Try.func11, Try.ntmps11
  go_upto_region 1 with fail
  have HF : Aside0 (FB w (w.alloc (.cells #[.int .i64 0, .int .i64 0, .int .i64 0, .int .i64 0, .bool false] 30)) w.heap.size #[.int .i64 0, .int .i64 0, .int .i64 0, .int .i64 0, .bool false]) := ⟨⟨below_alloc (Below.refl _ _) _, heap_alloc_new w _, Nat.le_refl _⟩⟩
  generalize w.alloc (.cells #[.int .i64 0, .int .i64 0, .int .i64 0, .int .i64 0, .bool false] 30) = w1 at HF ⊢
  generalize hg6 : w.heap.size = g6 at HF ⊢
  clear hg6
  go_wp2_with fail
  refine (find_none k _).mono ?_
  rintro e w2 ⟨rfl, rfl⟩
  go_upto_region 5 with fail
  go_quiet (fail)
  replace HF := Aside0.mk (HF.out.below (pw_below_drewN (Below.refl _ _) nq))
  generalize w1.drewN nq = w3 at HF ⊢
  have d0_ := (blk_cell HF.out.r 0).trans (rfl : _ = some (.int .i64 0 : Value))
  have d1_ := (blk_cell HF.out.r 1).trans (rfl : _ = some (.int .i64 0 : Value))
  have d2_ := (blk_cell HF.out.r 2).trans (rfl : _ = some (.int .i64 0 : Value))
  have d3_ := (blk_cell HF.out.r 3).trans (rfl : _ = some (.int .i64 0 : Value))
  have d4_ := (blk_cell HF.out.r 4).trans (rfl : _ = some (.bool false : Value))
  have k0_ := blk_frozen HF.out.r 0
  have k1_ := blk_frozen HF.out.r 1
  have k2_ := blk_frozen HF.out.r 2
  have k3_ := blk_frozen HF.out.r 3
  have k4_ := blk_frozen HF.out.r 4
  go_wp2
  have F_ := (((((HF.out).put 0 (.int .i64 0) (cs' := #[.int .i64 0, .int .i64 0, .int .i64 0, .int .i64 0, .bool false]) rfl).put 1 (.int .i64 0) (cs' := #[.int .i64 0, .int .i64 0, .int .i64 0, .int .i64 0, .bool false]) rfl).put 2 (.int .i64 0) (cs' := #[.int .i64 0, .int .i64 0, .int .i64 0, .int .i64 0, .bool false]) rfl).put 3 (.int .i64 0) (cs' := #[.int .i64 0, .int .i64 0, .int .i64 0, .int .i64 0, .bool false]) rfl).put 4 (.bool false) (cs' := #[.int .i64 0, .int .i64 0, .int .i64 0, .int .i64 0, .bool false]) rfl
  generalize (((((w3).setCell ⟨g6, 0, none⟩ (.int .i64 0)).setCell ⟨g6, 1, none⟩ (.int .i64 0)).setCell ⟨g6, 2, none⟩ (.int .i64 0)).setCell ⟨g6, 3, none⟩ (.int .i64 0)).setCell ⟨g6, 4, none⟩ (.bool false) = w99 at F_ ⊢
  have p0_ : w99.cell? ⟨g6, 0, none⟩ = some (.int .i64 0) := (blk_cell F_.r 0).trans rfl
  have p1_ : w99.cell? ⟨g6, 1, none⟩ = some (.int .i64 0) := (blk_cell F_.r 1).trans rfl
  have p2_ : w99.cell? ⟨g6, 2, none⟩ = some (.int .i64 0) := (blk_cell F_.r 2).trans rfl
  have p3_ : w99.cell? ⟨g6, 3, none⟩ = some (.int .i64 0) := (blk_cell F_.r 3).trans rfl
  have p4_ : w99.cell? ⟨g6, 4, none⟩ = some (.bool false) := (blk_cell F_.r 4).trans rfl
  refine bodyPost_ret (v := .tuple #[.agg #[.int .i64 0, .int .i64 0, .int .i64 0, .int .i64 0, .bool false], .int .i64 3]) (by simp [results, Try.results11, go_sem, p0_, p1_, p2_, p3_, p4_]) rfl ?_
  exact ⟨rfl, F_.b⟩
theorem del_nil (k : Int) (w : World) : Calls Try.prog 15 #[.pointer none, .int .i64 k] w fun e w' => e = .returned (.tuple #[.agg #[.int .i64 0, .int .i64 0, .int .i64 0, .int .i64 0, .bool false], .int .i64 6]) ∧ Below w.heap.size w w' := by
  go_enter Try.func15, Try.ntmps15
  go_upto_region 1 with fail
  have HF : Aside0 (FB w (w.alloc (.cells #[.int .i64 0, .int .i64 0, .int .i64 0, .int .i64 0, .bool false] 30)) w.heap.size #[.int .i64 0, .int .i64 0, .int .i64 0, .int .i64 0, .bool false]) := ⟨⟨below_alloc (Below.refl _ _) _, heap_alloc_new w _, Nat.le_refl _⟩⟩
  generalize w.alloc (.cells #[.int .i64 0, .int .i64 0, .int .i64 0, .int .i64 0, .bool false] 30) = w1 at HF ⊢
  generalize hg6 : w.heap.size = g6 at HF ⊢
  clear hg6
  go_wp2_with fail
  refine (find_none k _).mono ?_
  rintro e w2 ⟨rfl, rfl⟩
  have d0_ := (blk_cell HF.out.r 0).trans (rfl : _ = some (.int .i64 0 : Value))
  have d1_ := (blk_cell HF.out.r 1).trans (rfl : _ = some (.int .i64 0 : Value))
  have d2_ := (blk_cell HF.out.r 2).trans (rfl : _ = some (.int .i64 0 : Value))
  have d3_ := (blk_cell HF.out.r 3).trans (rfl : _ = some (.int .i64 0 : Value))
  have d4_ := (blk_cell HF.out.r 4).trans (rfl : _ = some (.bool false : Value))
  have k0_ := blk_frozen HF.out.r 0
  have k1_ := blk_frozen HF.out.r 1
  have k2_ := blk_frozen HF.out.r 2
  have k3_ := blk_frozen HF.out.r 3
  have k4_ := blk_frozen HF.out.r 4
  go_wp2
  have F_ := (((((HF.out).put 0 (.int .i64 0) (cs' := #[.int .i64 0, .int .i64 0, .int .i64 0, .int .i64 0, .bool false]) rfl).put 1 (.int .i64 0) (cs' := #[.int .i64 0, .int .i64 0, .int .i64 0, .int .i64 0, .bool false]) rfl).put 2 (.int .i64 0) (cs' := #[.int .i64 0, .int .i64 0, .int .i64 0, .int .i64 0, .bool false]) rfl).put 3 (.int .i64 0) (cs' := #[.int .i64 0, .int .i64 0, .int .i64 0, .int .i64 0, .bool false]) rfl).put 4 (.bool false) (cs' := #[.int .i64 0, .int .i64 0, .int .i64 0, .int .i64 0, .bool false]) rfl
  generalize (((((w1).setCell ⟨g6, 0, none⟩ (.int .i64 0)).setCell ⟨g6, 1, none⟩ (.int .i64 0)).setCell ⟨g6, 2, none⟩ (.int .i64 0)).setCell ⟨g6, 3, none⟩ (.int .i64 0)).setCell ⟨g6, 4, none⟩ (.bool false) = w99 at F_ ⊢
  have p0_ : w99.cell? ⟨g6, 0, none⟩ = some (.int .i64 0) := (blk_cell F_.r 0).trans rfl
  have p1_ : w99.cell? ⟨g6, 1, none⟩ = some (.int .i64 0) := (blk_cell F_.r 1).trans rfl
  have p2_ : w99.cell? ⟨g6, 2, none⟩ = some (.int .i64 0) := (blk_cell F_.r 2).trans rfl
  have p3_ : w99.cell? ⟨g6, 3, none⟩ = some (.int .i64 0) := (blk_cell F_.r 3).trans rfl
  have p4_ : w99.cell? ⟨g6, 4, none⟩ = some (.bool false) := (blk_cell F_.r 4).trans rfl
  refine bodyPost_ret (v := .tuple #[.agg #[.int .i64 0, .int .i64 0, .int .i64 0, .int .i64 0, .bool false], .int .i64 6]) (by simp [results, Try.results15, go_sem, p0_, p1_, p2_, p3_, p4_]) rfl ?_
  exact ⟨rfl, F_.b⟩
theorem do_nil (k : Int) (w : World) : Calls Try.prog 16 #[.pointer none, .agg #[.int .i64 k, .int .i64 0, .int .i64 0, .int .i64 0, .bool false]] w fun e w' => e = .returned (.int .i64 3) ∧ Below w.heap.size w w' := by
  have HB := Aside0.mk (Below.refl w.heap.size w)
  go_enter Try.func16, Try.ntmps16
  go_wp2_with fail
  refine (put_nil k 0 _).mono ?_
  rintro e w2 ⟨rfl, hb_⟩
  replace HB := Aside0.mk (below_step (below_step HB.out (by repeat (first | exact Below.refl _ _ | apply below_alloc | (refine below_set ?_ (Nat.le_refl _))))) hb_)
  clear hb_
  go_wp2_with fail
  go_ret
  exact ⟨rfl, below_step HB.out (by repeat (first | exact Below.refl _ _ | apply below_alloc | (refine below_set ?_ (Nat.le_refl _))))⟩
theorem list_nil (w : World) : Calls Try.prog 13 #[.pointer none] w fun e w' => e = .returned (.slice none 0 0) ∧ w = w' := by
  go_enter Try.func13, Try.ntmps13
  go_wp2
  go_ret
  exact ⟨rfl, rfl⟩
set_option maxHeartbeats 2000000 in
theorem nobody_ok (k x : Int) (w : World) : Calls Try.prog 8 #[.int .i64 k, .int .i64 x] w fun e w' => e = .returned (.bool true) ∧ Below w.heap.size w w' := by
  have HB := Aside0.mk (Below.refl w.heap.size w)
  go_enter Try.func8, Try.ntmps8
  go_wp2_with fail
  refine (shown_ok _).mono ?_
  rintro e w1 ⟨rfl, hb_⟩
  replace HB := Aside0.mk (below_step (below_step HB.out (by repeat (first | exact Below.refl _ _ | apply below_alloc | (refine below_set ?_ (Nat.le_refl _))))) hb_)
  clear hb_

  go_wp2_with fail
  refine (get_nil k _).mono ?_
  rintro e w2 ⟨rfl, rfl⟩

  go_wp2_with fail
  refine (put_nil k x _).mono ?_
  rintro e w2 ⟨rfl, hb_⟩
  replace HB := Aside0.mk (below_step (below_step HB.out (by repeat (first | exact Below.refl _ _ | apply below_alloc | (refine below_set ?_ (Nat.le_refl _))))) hb_)
  clear hb_

  go_wp2_with fail
  refine (del_nil k _).mono ?_
  rintro e w3 ⟨rfl, hb_⟩
  replace HB := Aside0.mk (below_step (below_step HB.out (by repeat (first | exact Below.refl _ _ | apply below_alloc | (refine below_set ?_ (Nat.le_refl _))))) hb_)
  clear hb_

  go_wp2_with fail
  refine (do_nil k _).mono ?_
  rintro e w4 ⟨rfl, hb_⟩
  replace HB := Aside0.mk (below_step (below_step HB.out (by repeat (first | exact Below.refl _ _ | apply below_alloc | (refine below_set ?_ (Nat.le_refl _))))) hb_)
  clear hb_

  go_wp2_with fail
  refine (len_nil _).mono ?_
  rintro e w5 ⟨rfl, rfl⟩

  go_wp2_with fail
  refine (list_nil _).mono ?_
  rintro e w5 ⟨rfl, rfl⟩

  go_wp2_with fail
  go_ret
  exact ⟨rfl, HB.out⟩
attribute [local go_sem] max2_int min2_int max_two min_two
set_option maxHeartbeats 2000000 in
set_option maxRecDepth 100000 in
theorem full_ok (room many : Int) (w : World) (r0 : 0 ≤ room) (r1 : room < 256) (m0 : 0 ≤ many) (m1 : many < 256) : Calls Try.prog 4 #[.int .u8 room, .int .u8 many] w fun e w' => e = .returned (.bool true) ∧ Below w.heap.size w w' := by
  have HB := Aside0.mk (Below.refl w.heap.size w)
  obtain ⟨N, HN⟩ : ∃ N : Nat, Aside0 ((N : Int) = 1 + room) := ⟨(1 + room).toNat, ⟨by omega⟩⟩
  obtain ⟨M, rfl⟩ : ∃ M : Nat, many = (M : Int) := ⟨many.toNat, by omega⟩
  have hw1 : wrap64 (1 + room) = (N : Int) := by rw [HN.out]; unfold wrap64; omega
  have hw2 : IntKind.i64.wrap (1 + room) = (N : Int) := by rw [HN.out, IntKind.wrap_i64]; omega
  have hn0 : 0 < N := by have := HN.out; omega
  have hn1 : N ≤ 256 := by have := HN.out; omega
  have hm : M < 256 := by omega
  go_enter Try.func4, Try.ntmps4
  go_wp2_with fail
  refine (shown_ok _).mono ?_
  rintro e w1 ⟨rfl, hb_⟩
  replace HB := Aside0.mk (below_step (below_step HB.out (by repeat (first | exact Below.refl _ _ | apply below_alloc | (refine below_set ?_ (Nat.le_refl _))))) hb_)
  clear hb_

  go_wp2_with fail
  refine (new1 N w _ HB.out (by omega) (by omega)).mono ?_
  rintro e w2 ⟨b, rfl, hs_, _⟩
  have HS := Aside0.mk hs_
  clear hs_ HB
  go_wp2_with fail
  go_loopw [9] (fun v9 wr => ∃ (i : Nat) (L : KL), i ≤ M ∧ v9 = .int .i64 (i : Int) ∧ Aside0 (FullInv N i L) ∧ Aside0 (St1 w wr b N L)) (fun v9 _ => M - (intOf v9).toNat)
  case atStart => exact ⟨0, [], by omega, rfl, ⟨FullInv.start N⟩, HS⟩
  case round =>
    clear HS
    obtain ⟨i, L, hi, rfl, HI, HS⟩ := hrel
    by_cases hlt : i < M
    · have h1 : decide ((i : Int) < (M : Int)) = true := by simp; omega
      have h1b : decide (i < M) = true := by simp; omega
      have HH := Aside0.mk (HI.out.half 1)
      have HO := Aside0.mk HI.out.one
      have hi64 : In64 (i : Int) := ⟨by omega, by omega⟩
      have HI6 := Aside0.mk hi64
      clear hi64
      by_cases hin : i < N
      · have h2 : decide ((i : Int) < (N : Int)) = true := by simp; omega
        have h2b : decide (i < N) = true := by simp; omega
        rw [h2b] at HO
        have HPL : Aside0 (putL N L i 1 = put L i 1) := ⟨by unfold putL; rw [if_pos HO.out]⟩
        rw [HPL.out] at HH
        obtain ⟨L1, HL1⟩ : ∃ y, Aside0 (put L (i : Int) 1 = y) := ⟨_, ⟨rfl⟩⟩
        rw [HL1.out] at HH
        have HM := Aside0.mk (HH.out.may hn0)
        have HNX := Aside0.mk (HH.out.next hn0 (i : Int))
        have HP2 : Aside0 (putL N L1 0 i = put L1 0 i) := ⟨by unfold putL; rw [if_pos HM.out]⟩
        rw [HP2.out] at HNX
        go_wp2_with fail
        refine ((HS.out.below (by repeat (first | exact Below.refl _ _ | apply below_alloc | (refine below_set ?_ (Nat.le_refl _))))).put i 1 HI6.out ⟨by omega, by omega⟩ HO.out).mono ?_
        rintro e w3 ⟨rfl, hs_⟩
        rw [HL1.out] at hs_
        replace HS := Aside0.mk hs_
        clear hs_
        go_wp2_with fail
        refine ((HS.out.below (by repeat (first | exact Below.refl _ _ | apply below_alloc | (refine below_set ?_ (Nat.le_refl _))))).put 0 i ⟨by omega, by omega⟩ HI6.out HM.out).mono ?_
        rintro e w4 ⟨rfl, hs_⟩
        replace HS := Aside0.mk hs_
        clear hs_

        go_wp2_with fail
        go_roundw
        case rel => exact ⟨i + 1, _, by omega, by go_num, HNX, ⟨HS.out.below (by repeat (first | exact Below.refl _ _ | apply below_alloc | (refine below_set ?_ (Nat.le_refl _))))⟩⟩
        case measure => simp [intOf]; omega
      · have h2 : decide ((i : Int) < (N : Int)) = false := by simp; omega
        have h2b : decide (i < N) = false := by simp; omega
        rw [h2b] at HO
        have HPL : Aside0 (putL N L i 1 = L) := ⟨by unfold putL; rw [if_neg (by rw [HO.out]; simp)]⟩
        rw [HPL.out] at HH
        have HM := Aside0.mk (HH.out.may hn0)
        have HNX := Aside0.mk (HH.out.next hn0 (i : Int))
        have HP2 : Aside0 (putL N L 0 i = put L 0 i) := ⟨by unfold putL; rw [if_pos HM.out]⟩
        rw [HP2.out] at HNX
        go_wp2_with fail
        refine ((HS.out.below (by repeat (first | exact Below.refl _ _ | apply below_alloc | (refine below_set ?_ (Nat.le_refl _))))).putN i 1 HI6.out ⟨by omega, by omega⟩ HO.out).mono ?_
        rintro e w3 ⟨rfl, hs_⟩
        replace HS := Aside0.mk hs_
        clear hs_
        go_wp2_with fail
        refine ((HS.out.below (by repeat (first | exact Below.refl _ _ | apply below_alloc | (refine below_set ?_ (Nat.le_refl _))))).put 0 i ⟨by omega, by omega⟩ HI6.out HM.out).mono ?_
        rintro e w4 ⟨rfl, hs_⟩
        replace HS := Aside0.mk hs_
        clear hs_

        go_wp2_with fail
        go_roundw
        case rel => exact ⟨i + 1, _, by omega, by go_num, HNX, ⟨HS.out.below (by repeat (first | exact Below.refl _ _ | apply below_alloc | (refine below_set ?_ (Nat.le_refl _))))⟩⟩
        case measure => simp [intOf]; omega
    · obtain rfl : i = M := by omega
      have HLN := Aside0.mk HI.out.len
      clear hlt
      by_cases hin : i < N
      · have HL2 : Aside0 (L.length = i) := ⟨by rw [HLN.out]; omega⟩
        have hmn : (if (i : Int) < (N : Int) then (i : Int) else (N : Int)) = (i : Int) := if_pos (by omega)
        have h2 : decide ((i : Int) < (N : Int)) = true := by simp; omega
        have h2b : decide (i < N) = true := by simp; omega
        go_wp2_with fail
        refine (HS.out.len).mono ?_
        rintro e w3 ⟨rfl, rfl⟩
        rw [HL2.out]
        go_wp2_with fail
        go_ret
        exact ⟨rfl, HS.out.bl⟩
      · have HL2 : Aside0 (L.length = N) := ⟨by rw [HLN.out]; omega⟩
        have hmn : (if (i : Int) < (N : Int) then (i : Int) else (N : Int)) = (N : Int) := if_neg (by omega)
        have h2 : decide ((i : Int) < (N : Int)) = false := by simp; omega
        have h2b : decide (i < N) = false := by simp; omega
        go_wp2_with fail
        refine (HS.out.len).mono ?_
        rintro e w3 ⟨rfl, rfl⟩
        rw [HL2.out]
        go_wp2_with fail
        go_ret
        exact ⟨rfl, HS.out.bl⟩
end Go.Proofs.Ytlnpnlacalppjaa.Kv
