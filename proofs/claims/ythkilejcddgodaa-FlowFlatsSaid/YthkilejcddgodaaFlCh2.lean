/- flow.Chain, in the form of the printer's own contracts. -/
import Derived.Test.YthkilejcddgodaaFlChain
import Derived.Laws.EntriesVeiled
namespace Go.Proofs.Ythkilejcddgodaa.Ex
open Go Go.RowKit Go.Proofs.YthkilejcddgodaaW.PrintWords Go.Proofs.YthkilejcddgodaaW.PrintLast Go.Proofs.YthkilejcddgodaaW.PrintMore
attribute [local go_sem] max2_int min2_int max_two min_two max_three min_three max_four min_four
set_option linter.unusedVariables false
set_option linter.unusedSimpArgs false
theorem mok_zeros (n : Nat) : MOk (List.replicate n 0) := fun x hx => by rw [List.mem_replicate] at hx; omega
theorem chain1_zero (p : CP) (h8 : p.L.length ≤ 8) (hL : Kd.C k27 p.w0 p.A0 p.L.length p.L) (hc : p.L.length ≤ p.c0) (r : Rc) (w : World) (h : CI p w ⟨[], List.replicate p.L.length 0, -1, 0⟩ (.slice none 0 0)) :
    Calls Try.prog 20 #[.int .i64 0, .agg #[.int .i64 r.f0, .int .i64 r.f1, .int .i64 r.f2], .pointer (some ⟨p.b2, 0, none⟩), .pointer (some ⟨p.b7, 0, none⟩), .pointer (some ⟨p.b8, 0, none⟩), .pointer (some ⟨p.b9, 0, none⟩), .pointer (some ⟨p.b10, 0, none⟩), .pointer (some ⟨p.b11, 0, none⟩)] w fun e w' => CPost p (chGo p.L 0 r ⟨[], List.replicate p.L.length 0, -1, 0⟩) (.slice none 0 0) w e w' := by
  refine chain1_ok p h8 hL hc p.L 0 r _ _ w (by simp) (by omega) h (mok_zeros _) ?_
  have h1 : 4 ^ p.L.length ≤ 4 ^ 8 := Nat.pow_le_pow_right (by omega) h8
  simp only [List.length_nil]
  omega
theorem made_nums (m : Nat) : madeCells #[.int .i64 0] m = (nums .i64 (List.replicate m 0)).toArray := by
  apply Array.ext'
  apply List.ext_getElem
  · simp [nums, madeCells]
  · intro i h1 h2
    simp [nums, madeCells, Nat.mod_one]
theorem infoI : (Try.prog.info? 3).map (fun i => (i.zero, i.size, i.bytes)) = some (some (.int .i64 0), 1, 8) := by kernel_rfl
set_option maxHeartbeats 8000000 in
set_option maxRecDepth 100000 in
theorem chain_ok (A0 : Option Addr) (c0 : Nat) (l0 : List Vx) (r : Rc) (w : World) (hr0 : Kd.C k27 w A0 l0.length l0) (hc0 : l0.length ≤ c0) (h8 : l0.length ≤ 8) :
    Calls Try.prog 15 #[.slice A0 l0.length c0, .agg #[.int .i64 r.f0, .int .i64 r.f1, .int .i64 r.f2]] w fun e w' => ∃ v0_ : Value, e = .returned (.tuple #[v0_, .int .i64 (chainOf l0 r).2.1, .int .i64 (chainOf l0 r).2.2]) ∧ Kd.R k29 29 w' w.heap.size (fun _ => True) v0_ (chainOf l0 r).1 ∧ Below w.heap.size w w' := by
  have HC := Aside0.mk hr0
  have HC0 := Aside0.mk hc0
  have H8 := Aside0.mk h8
  clear hr0 hc0 h8
  obtain ⟨n, HN⟩ : ∃ n, Aside0 (l0.length = n) := ⟨_, ⟨rfl⟩⟩
  obtain ⟨q, HQ⟩ : ∃ q, Aside0 (chGo l0 0 r ⟨[], List.replicate l0.length 0, -1, 0⟩ = q) := ⟨_, ⟨rfl⟩⟩
  obtain ⟨t, HT⟩ : ∃ t, Aside0 (chainOf l0 r = t) := ⟨_, ⟨rfl⟩⟩
  have HT2 : Aside0 ((if q.1 = true then (q.2.out, -1, 0) else ([], q.2.at_, q.2.err)) = t) := ⟨by rw [← HT.out, ← HQ.out]; rfl⟩
  rw [HT.out]
  have hmk := print_make 22 3 .i64 8 Try.underlying22 infoI (by decide) l0.length (by have := H8.out; omega)
  go_enter Try.func15, Try.ntmps15
  have HB := Aside0.mk (Below.refl w.heap.size w)
  go_upto_region 1 with fail
  have B2 := Aside0.mk (heap_alloc_new w (.cells #[.slice A0 l0.length c0] 40))
  have hb_ := below_alloc (Below.refl w.heap.size w) (.cells #[.slice A0 l0.length c0] 40)
  have hs_ : (w.alloc (.cells #[.slice A0 l0.length c0] 40)).heap.size = w.heap.size + 1 := by simp
  generalize w.alloc (.cells #[.slice A0 l0.length c0] 40) = w1 at B2 hb_ hs_ ⊢
  replace HB := Aside0.mk (below_step HB.out hb_)
  clear hb_
  have hs1 := Aside0.mk hs_
  clear hs_
  have B3 := Aside0.mk (heap_alloc_new w1 (.cells #[.int .i64 r.f0, .int .i64 r.f1, .int .i64 r.f2] 29))
  have hb_ := below_alloc (Below.refl w1.heap.size w1) (.cells #[.int .i64 r.f0, .int .i64 r.f1, .int .i64 r.f2] 29)
  have hs_ : (w1.alloc (.cells #[.int .i64 r.f0, .int .i64 r.f1, .int .i64 r.f2] 29)).heap.size = w1.heap.size + 1 := by simp
  generalize w1.alloc (.cells #[.int .i64 r.f0, .int .i64 r.f1, .int .i64 r.f2] 29) = w2 at B3 hb_ hs_ ⊢
  replace B2 := Aside0.mk (blk_below B2.out hb_)
  replace HB := Aside0.mk (below_step HB.out hb_)
  clear hb_
  clear hs_
  rw [hs1.out] at B3
  generalize w.heap.size + 1 = g3 at B3 ⊢
  obtain ⟨g2, HG2⟩ : ∃ g, Aside0 (w.heap.size = g) := ⟨_, ⟨rfl⟩⟩
  rw [HG2.out] at B2 ⊢
  go_upto_region 2 with fail
  have L7 := Aside0.mk HB.out.size
  have B7 := Aside0.mk (heap_alloc_new w2 (.cells #[.slice none 0 0] 32))
  have hb_ := below_alloc (Below.refl w2.heap.size w2) (.cells #[.slice none 0 0] 32)
  have hs_ : (w2.alloc (.cells #[.slice none 0 0] 32)).heap.size = w2.heap.size + 1 := by simp
  generalize w2.alloc (.cells #[.slice none 0 0] 32) = w3 at B7 hb_ hs_ ⊢
  replace B2 := Aside0.mk (blk_below B2.out hb_)
  replace B3 := Aside0.mk (blk_below B3.out hb_)
  replace HB := Aside0.mk (below_step HB.out hb_)
  clear hb_
  clear hs_
  generalize w2.heap.size = g7 at B7 L7 ⊢
  have c2_ := (blk_cell B2.out 0).trans (rfl : _ = some (.slice A0 l0.length c0 : Value))
  go_upto_region 3 with fail
  clear c2_ hmk
  have LM := Aside0.mk HB.out.size
  have BM := Aside0.mk (heap_alloc_new w3 (.cells (madeCells #[.int .i64 0] l0.length) 3))
  have hb_ := below_alloc (Below.refl w3.heap.size w3) (.cells (madeCells #[.int .i64 0] l0.length) 3)
  have hs_ : (w3.alloc (.cells (madeCells #[.int .i64 0] l0.length) 3)).heap.size = w3.heap.size + 1 := by simp
  generalize w3.alloc (.cells (madeCells #[.int .i64 0] l0.length) 3) = w4 at BM hb_ hs_ ⊢
  replace B2 := Aside0.mk (blk_below B2.out hb_)
  replace B3 := Aside0.mk (blk_below B3.out hb_)
  replace B7 := Aside0.mk (blk_below B7.out hb_)
  replace HB := Aside0.mk (below_step HB.out hb_)
  clear hb_
  have hs1 := Aside0.mk hs_
  clear hs_
  have B8 := Aside0.mk (heap_alloc_new w4 (.cells #[.slice (some ⟨w3.heap.size, 0, none⟩) l0.length l0.length] 22))
  have hb_ := below_alloc (Below.refl w4.heap.size w4) (.cells #[.slice (some ⟨w3.heap.size, 0, none⟩) l0.length l0.length] 22)
  have hs_ : (w4.alloc (.cells #[.slice (some ⟨w3.heap.size, 0, none⟩) l0.length l0.length] 22)).heap.size = w4.heap.size + 1 := by simp
  generalize w4.alloc (.cells #[.slice (some ⟨w3.heap.size, 0, none⟩) l0.length l0.length] 22) = w5 at B8 hb_ hs_ ⊢
  replace B2 := Aside0.mk (blk_below B2.out hb_)
  replace B3 := Aside0.mk (blk_below B3.out hb_)
  replace B7 := Aside0.mk (blk_below B7.out hb_)
  replace BM := Aside0.mk (blk_below BM.out hb_)
  replace HB := Aside0.mk (below_step HB.out hb_)
  clear hb_
  clear hs_
  rw [hs1.out] at B8
  generalize w3.heap.size + 1 = g8 at B8 ⊢
  generalize w3.heap.size = gm at BM B8 LM ⊢
  have HLM : Aside0 (gm < w5.heap.size) := ⟨blk_lt BM.out⟩
  go_upto_region 4 with fail
  have L9 := Aside0.mk HB.out.size
  have L10 : Aside0 (w.heap.size ≤ w5.heap.size + 1) := ⟨by have := L9.out; omega⟩
  have B9 := Aside0.mk (heap_alloc_new w5 (.cells #[.int .i64 (-1)] 3))
  have hb_ := below_alloc (Below.refl w5.heap.size w5) (.cells #[.int .i64 (-1)] 3)
  have hs_ : (w5.alloc (.cells #[.int .i64 (-1)] 3)).heap.size = w5.heap.size + 1 := by simp
  generalize w5.alloc (.cells #[.int .i64 (-1)] 3) = w6 at B9 hb_ hs_ ⊢
  replace B2 := Aside0.mk (blk_below B2.out hb_)
  replace B3 := Aside0.mk (blk_below B3.out hb_)
  replace B7 := Aside0.mk (blk_below B7.out hb_)
  replace BM := Aside0.mk (blk_below BM.out hb_)
  replace B8 := Aside0.mk (blk_below B8.out hb_)
  replace HB := Aside0.mk (below_step HB.out hb_)
  clear hb_
  have hs1 := Aside0.mk hs_
  clear hs_
  have B10 := Aside0.mk (heap_alloc_new w6 (.cells #[.int .i64 0] 33))
  have hb_ := below_alloc (Below.refl w6.heap.size w6) (.cells #[.int .i64 0] 33)
  have hs_ : (w6.alloc (.cells #[.int .i64 0] 33)).heap.size = w6.heap.size + 1 := by simp
  generalize w6.alloc (.cells #[.int .i64 0] 33) = w7 at B10 hb_ hs_ ⊢
  replace B2 := Aside0.mk (blk_below B2.out hb_)
  replace B3 := Aside0.mk (blk_below B3.out hb_)
  replace B7 := Aside0.mk (blk_below B7.out hb_)
  replace BM := Aside0.mk (blk_below BM.out hb_)
  replace B8 := Aside0.mk (blk_below B8.out hb_)
  replace B9 := Aside0.mk (blk_below B9.out hb_)
  replace HB := Aside0.mk (below_step HB.out hb_)
  clear hb_
  clear hs_
  rw [hs1.out] at B10
  generalize w5.heap.size + 1 = g10 at B10 L10 ⊢
  have HN9 : Aside0 (gm ≠ w5.heap.size) := ⟨by have := HLM.out; omega⟩
  generalize w5.heap.size = g9 at B9 HN9 L9 ⊢
  go_upto_region 5 with fail
  have HL11 := Aside0.mk HB.out.size
  have B11 := Aside0.mk (heap_alloc_new w7 (.cells #[.nilFunc] 57))
  have hb_ := below_alloc (Below.refl w7.heap.size w7) (.cells #[.nilFunc] 57)
  have hs_ : (w7.alloc (.cells #[.nilFunc] 57)).heap.size = w7.heap.size + 1 := by simp
  generalize w7.alloc (.cells #[.nilFunc] 57) = w8 at B11 hb_ hs_ ⊢
  replace B2 := Aside0.mk (blk_below B2.out hb_)
  replace B3 := Aside0.mk (blk_below B3.out hb_)
  replace B7 := Aside0.mk (blk_below B7.out hb_)
  replace BM := Aside0.mk (blk_below BM.out hb_)
  replace B8 := Aside0.mk (blk_below B8.out hb_)
  replace B9 := Aside0.mk (blk_below B9.out hb_)
  replace B10 := Aside0.mk (blk_below B10.out hb_)
  replace HB := Aside0.mk (below_step HB.out hb_)
  clear hb_
  clear hs_
  generalize w7.heap.size = g11 at B11 HL11 ⊢
  have c11_ := (blk_cell B11.out 0).trans (rfl : _ = some (.nilFunc : Value))
  have f11_ := blk_frozen B11.out 0
  go_upto_region 6 with fail
  clear c11_ f11_
  have HI : Aside0 (CI ⟨w, A0, c0, l0, g2, g7, g8, g9, g10, g11, gm⟩ (w8.setCell ⟨g11, 0, none⟩ (.func (.func 20) #[] #[.pointer (some ⟨g2, 0, none⟩), .pointer (some ⟨g7, 0, none⟩), .pointer (some ⟨g8, 0, none⟩), .pointer (some ⟨g9, 0, none⟩), .pointer (some ⟨g10, 0, none⟩), .pointer (some ⟨g11, 0, none⟩)])) ⟨[], List.replicate l0.length 0, -1, 0⟩ (.slice none 0 0)) := ⟨by
    have hm := BM.out
    rw [made_nums] at hm
    exact ⟨below_set HB.out HL11.out, blk_far B2.out (p := ⟨g11, 0, none⟩) (blk_ne B2.out B11.out (by decide)) _, blk_far B7.out (p := ⟨g11, 0, none⟩) (blk_ne B7.out B11.out (by decide)) _, blk_far B8.out (p := ⟨g11, 0, none⟩) (blk_ne B8.out B11.out (by decide)) _,
      blk_far hm (p := ⟨g11, 0, none⟩) (blk_ne hm B11.out (by decide)) _, blk_far B9.out (p := ⟨g11, 0, none⟩) (blk_ne B9.out B11.out (by decide)) _, blk_far B10.out (p := ⟨g11, 0, none⟩) (blk_ne B10.out B11.out (by decide)) _, blk_put B11.out 0 _ rfl,
      Kd.R_nil _ _ _ _ _, HN9.out, by simp, L7.out, L9.out, L10.out, LM.out⟩⟩
  have B3' := Aside0.mk (blk_far B3.out (p := ⟨g11, 0, none⟩) (blk_ne B3.out B11.out (by decide)) (.func (.func 20) #[] #[.pointer (some ⟨g2, 0, none⟩), .pointer (some ⟨g7, 0, none⟩), .pointer (some ⟨g8, 0, none⟩), .pointer (some ⟨g9, 0, none⟩), .pointer (some ⟨g10, 0, none⟩), .pointer (some ⟨g11, 0, none⟩)]))
  clear B2 B3 B7 B8 BM B9 B10 B11 HB
  generalize w8.setCell ⟨g11, 0, none⟩ (.func (.func 20) #[] #[.pointer (some ⟨g2, 0, none⟩), .pointer (some ⟨g7, 0, none⟩), .pointer (some ⟨g8, 0, none⟩), .pointer (some ⟨g9, 0, none⟩), .pointer (some ⟨g10, 0, none⟩), .pointer (some ⟨g11, 0, none⟩)]) = w9 at HI B3' ⊢
  have c11_ := (blk_cell HI.out.h11 0).trans (rfl : _ = some (.func (.func 20) #[] #[.pointer (some ⟨g2, 0, none⟩), .pointer (some ⟨g7, 0, none⟩), .pointer (some ⟨g8, 0, none⟩), .pointer (some ⟨g9, 0, none⟩), .pointer (some ⟨g10, 0, none⟩), .pointer (some ⟨g11, 0, none⟩)] : Value))
  simp only at c11_
  have z0_ := (blk_cell B3'.out 0).trans (rfl : _ = some (.int .i64 r.f0 : Value))
  have z1_ := (blk_cell B3'.out 1).trans (rfl : _ = some (.int .i64 r.f1 : Value))
  have z2_ := (blk_cell B3'.out 2).trans (rfl : _ = some (.int .i64 r.f2 : Value))
  go_wp2_with fail
  refine (chain1_zero ⟨w, A0, c0, l0, g2, g7, g8, g9, g10, g11, gm⟩ H8.out HC.out HC0.out r _ HI.out).mono ?_
  rintro e w10 ⟨v9, rfl, hi_, hk_, ha_⟩
  simp only at hi_ ⊢
  rw [HQ.out] at hi_ ⊢
  obtain ⟨⟨b, s⟩, HE⟩ : ∃ z, Aside0 (q = z) := ⟨_, ⟨rfl⟩⟩
  rw [HE.out] at hi_ HT2 ⊢
  simp only at hi_ HT2 ⊢
  have HI10 := Aside0.mk hi_
  clear hi_ hk_ ha_ c11_ z0_ z1_ z2_ HI B3' HQ HE
  cases b with
  | true =>
    obtain rfl : (s.out, -1, 0) = t := HT2.out
    obtain ⟨A9, c9, rfl⟩ := Kd.R_slice HI10.out.hv
    have c7_ := (blk_cell HI10.out.h7 0).trans (rfl : _ = some (.slice A9 s.out.length c9 : Value))
    go_wp2
    go_ret3
    exact ⟨_, rfl, HI10.out.hv, HI10.out.hb⟩
  | false =>
    obtain rfl : ([], s.at_, s.err) = t := HT2.out
    go_upto_region 7 with fail
    refine start_ (n := 5) (S := fun w' => Below w10.heap.size w10 w') (ds := []) #[false, false, false, false, false] (by kernel_rfl) rfl rfl (below_drew (Below.refl _ _)) (fun hHeld => ?_)
    refine pure_ (i := 2) (N := some 4) (v := ?_) (a' := ?_) #[false, false, true, false, false] rfl rfl (by kernel_rfl) (fun _ _ _ h => h) (Or.inl ⟨by rfl, ?_⟩) ?_ ?_
    rotate_left
    · intro w'
      go_simp
      with_reducible rfl
    rotate_left
    · simp only [Act.put, List.setIfInBounds_toArray, List.set_cons_zero, List.set_cons_succ, i64_w, i32_w]
      rfl
    refine take_ (i := 0) (N := some 20) (v := ?_) (a' := ?_) #[true, false, true, false, false] rfl rfl (by kernel_rfl) (fun _ _ _ h => h) (Or.inl ⟨by rfl, ?_⟩) hHeld ?_ ?_
    rotate_left
    · intro w' hS
      have c_ := (blk_cell (blk_below HI10.out.h9 hS) 0).trans (rfl : _ = some (.int .i64 s.at_ : Value))
      go_simp
      with_reducible rfl
    rotate_left
    · simp only [Act.put, List.setIfInBounds_toArray, List.set_cons_zero, List.set_cons_succ, i64_w, i32_w]
      rfl
    refine pure_ (i := 3) (N := some 5) (v := ?_) (a' := ?_) #[true, false, true, true, false] rfl rfl (by kernel_rfl) (fun _ _ _ h => h) (Or.inl ⟨by rfl, ?_⟩) ?_ ?_
    rotate_left
    · intro w'
      go_simp
      with_reducible rfl
    rotate_left
    · simp only [Act.put, List.setIfInBounds_toArray, List.set_cons_zero, List.set_cons_succ, i64_w, i32_w]
      rfl
    refine take_ (i := 1) (N := some 21) (v := ?_) (a' := ?_) #[true, true, true, true, false] rfl rfl (by kernel_rfl) (fun _ _ _ h => h) (Or.inl ⟨by rfl, ?_⟩) hHeld ?_ ?_
    rotate_left
    · intro w' hS
      have c_ := (blk_cell (blk_below HI10.out.h10 hS) 0).trans (rfl : _ = some (.int .i64 s.err : Value))
      go_simp
      with_reducible rfl
    rotate_left
    · simp only [Act.put, List.setIfInBounds_toArray, List.set_cons_zero, List.set_cons_succ, i64_w, i32_w]
      rfl
    refine pure_ (i := 4) (N := some 6) (v := ?_) (a' := ?_) #[true, true, true, true, true] rfl rfl (by kernel_rfl) (fun _ _ _ h => h) (Or.inl ⟨by rfl, ?_⟩) ?_ ?_
    rotate_left
    · intro w'
      go_simp
      with_reducible rfl
    rotate_left
    · simp only [Act.put, List.setIfInBounds_toArray, List.set_cons_zero, List.set_cons_succ, i64_w, i32_w]
      rfl
    refine done_ (by kernel_rfl) ?_

    have HB10 := Aside0.mk (below_drew HI10.out.hb)
    go_wp2
    go_ret3
    exact ⟨_, rfl, Kd.R_nil _ _ _ _ _, HB10.out⟩
def flow_Chain.f (k : Nat) (l0 : List Vx) (a1_0 a1_1 a1_2 : Int) : Option (List Rc × Int × Int) := if l0.length ≤ 8 then some (chainOf l0 ⟨a1_0, a1_1, a1_2⟩) else none
theorem flow_Chain.mono (l0 : List Vx) (a1_0 a1_1 a1_2 : Int) (k : Nat) : LeO (flow_Chain.f k l0 a1_0 a1_1 a1_2) (flow_Chain.f (k + 1) l0 a1_0 a1_1 a1_2) := LeO.refl _
theorem flow_Chain.calls (k : Nat) (A0 : Option Addr) (c0 : Nat) (l0 : List Vx) (a1_0 a1_1 a1_2 : Int) (r1 : List Rc) (r2 r3 : Int) (w : World) (hr0 : Kd.C k27 w A0 l0.length l0) (hc0 : l0.length ≤ c0) (h : flow_Chain.f k l0 a1_0 a1_1 a1_2 = some (r1, r2, r3)) :
    Calls Try.prog 15 #[.slice A0 l0.length c0, .agg #[.int .i64 a1_0, .int .i64 a1_1, .int .i64 a1_2]] w fun e w' => ∃ v0_ : Value, e = .returned (.tuple #[v0_, .int .i64 r2, .int .i64 r3]) ∧ Kd.R k29 29 w' w.heap.size (fun _ => True) v0_ r1 ∧ Below w.heap.size w w' := by
  unfold flow_Chain.f at h
  by_cases h8 : l0.length ≤ 8
  · rw [if_pos h8] at h
    have h1 := Option.some.inj h
    have := chain_ok A0 c0 l0 ⟨a1_0, a1_1, a1_2⟩ w hr0 hc0 h8
    rw [h1] at this
    exact this
  · rw [if_neg h8] at h
    cases h
end Go.Proofs.Ythkilejcddgodaa.Ex
