/- The statement FlowMaps. -/
import Derived.Test.YthkilejcddgodaaFlM
import Derived.Test.YthkilejcddgodaaFlCh2
import Derived.Test.YthkilejcddgodaaExCom
import Derived.Test.YthkilejcddgodaaEx4
namespace Go.Proofs.Ythkilejcddgodaa.Ex
open Go Go.RowKit Go.Proofs.YthkilejcddgodaaW.PrintWords Go.Proofs.YthkilejcddgodaaW.PrintLast Go.Proofs.YthkilejcddgodaaW.PrintMore
attribute [local go_sem] max2_int min2_int max_two min_two max_three min_three max_four min_four
set_option linter.unusedVariables false
set_option linter.unusedSimpArgs false
/-! ### what it comes to -/
def qE (op n : Int) : E := ⟨op, 0, [⟨3, 0, []⟩, ⟨1, n, []⟩]⟩
def qV (kind op n : Int) : Vx := ⟨kind, [], qE op n, 0⟩
theorem eval_q (op n ky vl tm m : Int) (ho : op = 6 ∨ op = 8 ∨ op = 11) (hm : twoOf op vl n = some m) : evalOf (qE op n) ky vl tm 0 = (m, 0) := by
  have h : mayB (qE op n) = true := by rcases ho with rfl | rfl | rfl <;> simp [qE, mayB, leftOf, kidsOf, mayL]
  have hv : valOf 16 ky vl tm 0 (qE op n) = some m := by
    rcases ho with rfl | rfl | rfl <;> simp [qE, valOf, kid, hm]
  unfold evalOf
  rw [if_pos h, hv]
theorem ap_map (op n : Int) (r : Rc) (m : Int) (ho : op = 6 ∨ op = 8 ∨ op = 11) (hm : twoOf op r.f1 n = some m) : apOf 2 (qE op n) r = ([⟨r.f0, m, r.f2⟩], 0) := by
  unfold apOf
  rw [if_neg (by decide), if_pos (by decide), eval_q op n r.f0 r.f1 r.f2 m ho hm]
  simp [outOf]
theorem ap_less (n : Int) (r : Rc) : apOf 3 (qE 11 n) r = (if r.f1 < n then [r] else [], 0) := by
  unfold apOf
  rw [if_neg (by decide), if_pos (by decide), eval_q 11 n r.f0 r.f1 r.f2 (oneOf (decide (r.f1 < n))) (by omega) (by simp [twoOf])]
  by_cases h : r.f1 < n <;> simp [outOf, oneOf, h]
theorem chain_two (a b : Int) (r : Rc) : chainOf [qV 2 6 a, qV 2 8 b] r = ([⟨r.f0, wrap64 (wrap64 (r.f1 + a) * b), r.f2⟩], -1, 0) := by
  have h1 := ap_map 6 a r (wrap64 (r.f1 + a)) (by omega) (by simp [twoOf])
  have h2 := ap_map 8 b ⟨r.f0, wrap64 (r.f1 + a), r.f2⟩ (wrap64 (wrap64 (r.f1 + a) * b)) (by omega) (by simp [twoOf])
  rw [chain_good]
  · simp [runD, qV, h1, h2]
  · simp [okD, qV, h1, h2]
  · intro j hj
    match j, hj with
    | 0, _ => simp [cnV, qV, h1]
    | 1, _ => simp [cnV, qV, h1, h2]
def lessL (n : Int) (r : Rc) : List Rc := if r.f1 < n then [r] else []
theorem chain_less1 (n : Int) (r : Rc) : chainOf [qV 3 11 n] r = (lessL n r, -1, 0) := by
  have h1 := ap_less n r
  unfold lessL
  rw [chain_good]
  · by_cases h : r.f1 < n <;> simp [runD, qV, h1, h]
  · by_cases h : r.f1 < n <;> simp [okD, qV, h1, h]
  · intro j hj
    match j, hj with
    | 0, _ => by_cases h : r.f1 < n <;> simp [cnV, qV, h1, h]
theorem chain_less2 (n : Int) (r : Rc) : chainOf [qV 3 11 n, qV 3 11 n] r = (lessL n r, -1, 0) := by
  have h1 := ap_less n r
  unfold lessL
  rw [chain_good]
  · by_cases h : r.f1 < n <;> simp [runD, qV, h1, h]
  · by_cases h : r.f1 < n <;> simp [okD, qV, h1, h]
  · intro j hj
    match j, hj with
    | 0, _ => by_cases h : r.f1 < n <;> simp [cnV, qV, h1, h]
    | 1, _ => by_cases h : r.f1 < n <;> simp [cnV, qV, h1, h]
/-! ### what is made -/
theorem add_flat (g j : Nat) : (⟨g, 0, none⟩ : Addr).add j = ⟨g, j, none⟩ := by unfold Addr.add; split <;> simp_all
theorem reps_cons {α : Type} {R : α → List Value → Prop} {size : Nat} {ps : List α} {cs c : List Value} {p : α} (h : Reps R size ps cs) (hp : R p c) (hc : c.length = size) : Reps R size (p :: ps) (c ++ cs) := by
  refine ⟨by rw [List.length_append, h.1, hc, List.length_cons, Nat.succ_mul, Nat.add_comm], fun j q hq => ?_⟩
  cases j with
  | zero =>
    have : p = q := by simpa using hq
    subst this
    rw [Nat.zero_mul, List.drop_zero, ← hc, List.take_left]
    exact hp
  | succ j =>
    have h2 := h.2 j q (by simpa using hq)
    have : (c ++ cs).drop ((j + 1) * size) = cs.drop (j * size) := by
      rw [Nat.succ_mul, Nat.add_comm, ← hc, ← List.drop_drop, List.drop_left]
    rw [this]
    exact h2
theorem C_of_blk {α : Type} (d : Kd α) (w : World) (g : Nat) (t : TypeId) (ps : List α) (cs : List Value) (hb : w.heap[g]? = some (.cells cs.toArray t (0, 0))) (h : Reps (d.K w) d.sz ps cs) (hm : ps.length ≤ 9223372036854775807) : Kd.C d w (some ⟨g, 0, none⟩) ps.length ps := by
  refine ⟨rfl, hm, fun _ => ⟨_, rfl, fun j p hj => ?_⟩⟩
  have hK := h.2 j p hj
  refine ⟨_, d.K_len hK, hK, fun i u hu => ?_⟩
  have hi : i < d.sz := by
    have := (List.getElem?_eq_some_iff.1 hu).1
    rw [d.K_len hK] at this
    exact this
  rw [add_flat, cell_of_row _ _ _ _ _ _ hb]
  rw [List.getElem?_take_of_lt hi, List.getElem?_drop] at hu
  simpa using hu
theorem con_is (n : Int) (w : World) : Calls Try.prog 17 #[.int .i64 n] w fun e w' => e = .returned (.agg #[.int .i64 1, .int .i64 n, .slice none 0 0]) ∧ Below w.heap.size w w' := by
  go_enter Try.func17, Try.ntmps17
  go_wp2
  refine bodyPost_ret (v := .agg #[.int .i64 1, .int .i64 n, .slice none 0 0]) (by simp [results, Try.results17, go_sem]) rfl ?_
  exact ⟨rfl, by repeat (first | exact Below.refl _ _ | apply below_alloc)⟩
/-- A vertex in a box of its own. -/
structure VB (w : World) (g gk : Nat) (kind op n : Int) : Prop where
  b : w.heap[g]? = some (.cells #[.int .i64 kind, .slice none 0 0, .int .i64 op, .int .i64 0, .slice (some ⟨gk, 0, none⟩) 2 2, .int .i64 0] 27 (0, 0))
  k : w.heap[gk]? = some (.cells #[.int .i64 3, .int .i64 0, .slice none 0 0, .int .i64 1, .int .i64 n, .slice none 0 0] 25 (0, 0))
theorem VB.below {w w1 : World} {g gk : Nat} {kind op n : Int} (h : VB w g gk kind op n) (hb : Below w.heap.size w w1) : VB w1 g gk kind op n := ⟨blk_below h.b hb, blk_below h.k hb⟩
theorem VB.cells {w : World} {g gk : Nat} {kind op n : Int} (h : VB w g gk kind op n) : w.cell? ⟨g, 0, none⟩ = some (.int .i64 kind) ∧ w.cell? ⟨g, 1, none⟩ = some (.slice none 0 0) ∧ w.cell? ⟨g, 2, none⟩ = some (.int .i64 op) ∧ w.cell? ⟨g, 3, none⟩ = some (.int .i64 0) ∧ w.cell? ⟨g, 4, none⟩ = some (.slice (some ⟨gk, 0, none⟩) 2 2) ∧ w.cell? ⟨g, 5, none⟩ = some (.int .i64 0) :=
  ⟨(blk_cell h.b 0).trans rfl, (blk_cell h.b 1).trans rfl, (blk_cell h.b 2).trans rfl, (blk_cell h.b 3).trans rfl, (blk_cell h.b 4).trans rfl, (blk_cell h.b 5).trans rfl⟩
theorem VB.kids {w : World} {g gk : Nat} {kind op n : Int} (h : VB w g gk kind op n) : Kd.C k25 w (some ⟨gk, 0, none⟩) 2 [⟨3, 0, []⟩, ⟨1, n, []⟩] :=
  C_of_blk k25 w gk 25 [⟨3, 0, []⟩, ⟨1, n, []⟩] [.int .i64 3, .int .i64 0, .slice none 0 0, .int .i64 1, .int .i64 n, .slice none 0 0] h.k
    (reps_cons (c := [.int .i64 3, .int .i64 0, .slice none 0 0]) (reps_cons (c := [.int .i64 1, .int .i64 n, .slice none 0 0]) (Reps.none _ _) (k25_mk w ⟨1, n, []⟩ (Nat.le_refl _) (Kd.C_nil _ _)) rfl) (k25_mk w ⟨3, 0, []⟩ (Nat.le_refl _) (Kd.C_nil _ _)) rfl) (by simp)
theorem VB.mk_ {w : World} {g gk : Nat} {kind op n : Int} (h : VB w g gk kind op n) : Kd.K k27 w (qV kind op n) [.int .i64 kind, .slice none 0 0, .int .i64 op, .int .i64 0, .slice (some ⟨gk, 0, none⟩) 2 2, .int .i64 0] :=
  k27_mk w (qV kind op n) (Nat.le_refl _) (Kd.C_nil _ _) (Nat.le_refl _) h.kids
theorem two_V {w : World} {g1 k1 g2 k2 : Nat} {d1 o1 n1 d2 o2 n2 : Int} (h1 : VB w g1 k1 d1 o1 n1) (h2 : VB w g2 k2 d2 o2 n2) : Kd.C k27 (w.alloc (.cells #[.int .i64 d1, .slice none 0 0, .int .i64 o1, .int .i64 0, .slice (some ⟨k1, 0, none⟩) 2 2, .int .i64 0, .int .i64 d2, .slice none 0 0, .int .i64 o2, .int .i64 0, .slice (some ⟨k2, 0, none⟩) 2 2, .int .i64 0] 27)) (some ⟨w.heap.size, 0, none⟩) 2 [qV d1 o1 n1, qV d2 o2 n2] := by
  have hb := below_alloc (Below.refl w.heap.size w) (.cells #[.int .i64 d1, .slice none 0 0, .int .i64 o1, .int .i64 0, .slice (some ⟨k1, 0, none⟩) 2 2, .int .i64 0, .int .i64 d2, .slice none 0 0, .int .i64 o2, .int .i64 0, .slice (some ⟨k2, 0, none⟩) 2 2, .int .i64 0] 27)
  exact C_of_blk k27 _ _ 27 [qV d1 o1 n1, qV d2 o2 n2] [.int .i64 d1, .slice none 0 0, .int .i64 o1, .int .i64 0, .slice (some ⟨k1, 0, none⟩) 2 2, .int .i64 0, .int .i64 d2, .slice none 0 0, .int .i64 o2, .int .i64 0, .slice (some ⟨k2, 0, none⟩) 2 2, .int .i64 0] (heap_alloc_new w _)
    (reps_cons (c := [.int .i64 d1, .slice none 0 0, .int .i64 o1, .int .i64 0, .slice (some ⟨k1, 0, none⟩) 2 2, .int .i64 0]) (reps_cons (c := [.int .i64 d2, .slice none 0 0, .int .i64 o2, .int .i64 0, .slice (some ⟨k2, 0, none⟩) 2 2, .int .i64 0]) (Reps.none _ _) (h2.below hb).mk_ rfl) (h1.below hb).mk_ rfl) (by simp)
theorem one_V {w : World} {g1 k1 : Nat} {d1 o1 n1 : Int} (h1 : VB w g1 k1 d1 o1 n1) : Kd.C k27 (w.alloc (.cells #[.int .i64 d1, .slice none 0 0, .int .i64 o1, .int .i64 0, .slice (some ⟨k1, 0, none⟩) 2 2, .int .i64 0] 27)) (some ⟨w.heap.size, 0, none⟩) 1 [qV d1 o1 n1] := by
  have hb := below_alloc (Below.refl w.heap.size w) (.cells #[.int .i64 d1, .slice none 0 0, .int .i64 o1, .int .i64 0, .slice (some ⟨k1, 0, none⟩) 2 2, .int .i64 0] 27)
  exact C_of_blk k27 _ _ 27 [qV d1 o1 n1] [.int .i64 d1, .slice none 0 0, .int .i64 o1, .int .i64 0, .slice (some ⟨k1, 0, none⟩) 2 2, .int .i64 0] (heap_alloc_new w _) (reps_cons (c := [.int .i64 d1, .slice none 0 0, .int .i64 o1, .int .i64 0, .slice (some ⟨k1, 0, none⟩) 2 2, .int .i64 0]) (Reps.none _ _) (h1.below hb).mk_ rfl) (by simp)
theorem recs_ok (l : List Rc) (A0 : Option Addr) (c0 : Nat) (A1 : Option Addr) (c1 : Nat) (w : World) (h0 : Kd.C k29 w A0 l.length l) (l0 : l.length ≤ c0) (h1 : Kd.C k29 w A1 l.length l) (l1 : l.length ≤ c1) (hs : Ev (fun k => tidemillref11_Recs.f k l l) true) :
    Calls Try.prog 13 #[.slice A0 l.length c0, .slice A1 l.length c1] w fun e w' => e = .returned (.bool true) ∧ Below w.heap.size w w' := by
  obtain ⟨k, hk⟩ := Ev.rounds hs
  refine (tidemillref11_Recs.calls k A0 c0 l A1 c1 l true w h0 l0 h1 l1 hk).mono ?_
  rintro e w' ⟨he, hd⟩
  exact ⟨he, hd.below⟩
set_option maxHeartbeats 8000000 in
set_option maxRecDepth 100000 in
theorem maps_ok (a b : Int) (r : Rc) (w : World) :
    Calls Try.prog 8 #[.int .i64 a, .int .i64 b, .agg #[.int .i64 r.f0, .int .i64 r.f1, .int .i64 r.f2]] w fun e w' => e = .returned (.bool true) ∧ Below w.heap.size w w' := by
  have HB := Aside0.mk (Below.refl w.heap.size w)
  go_enter Try.func8, Try.ntmps8
  go_upto_region 1 with fail
  have BR := Aside0.mk (heap_alloc_new w (.cells #[.int .i64 r.f0, .int .i64 r.f1, .int .i64 r.f2] 29))
  have hb_ := below_alloc (Below.refl w.heap.size w) (.cells #[.int .i64 r.f0, .int .i64 r.f1, .int .i64 r.f2] 29)
  have hs_ : (w.alloc (.cells #[.int .i64 r.f0, .int .i64 r.f1, .int .i64 r.f2] 29)).heap.size = w.heap.size + 1 := by simp
  generalize w.alloc (.cells #[.int .i64 r.f0, .int .i64 r.f1, .int .i64 r.f2] 29) = w1 at BR hb_ hs_ ⊢
  replace HB := Aside0.mk (below_step HB.out hb_)
  clear hb_
  clear hs_
  obtain ⟨g5, HG5⟩ : ∃ g, Aside0 (w.heap.size = g) := ⟨_, ⟨rfl⟩⟩
  rw [HG5.out] at BR ⊢
  go_wp2_with fail
  refine ((Ev.rounds shown_ev).elim (fun k hk => tidemilllaw17_shown.calls k true _ hk)).mono ?_
  rintro e w2 ⟨rfl, hb_⟩
  replace BR := Aside0.mk (blk_below BR.out hb_)
  replace HB := Aside0.mk (below_step HB.out hb_)
  clear hb_
  go_wp2_with fail
  refine (con_is a _).mono ?_
  rintro e w3 ⟨rfl, hb_⟩
  replace BR := Aside0.mk (blk_below BR.out hb_)
  replace HB := Aside0.mk (below_step HB.out hb_)
  clear hb_
  go_upto_region 3 with fail
  have BK := Aside0.mk (heap_alloc_new w3 (.cells #[.int .i64 3, .int .i64 0, .slice none 0 0, .int .i64 1, .int .i64 a, .slice none 0 0] 25))
  have hb_ := below_alloc (Below.refl w3.heap.size w3) (.cells #[.int .i64 3, .int .i64 0, .slice none 0 0, .int .i64 1, .int .i64 a, .slice none 0 0] 25)
  have hs1 : (w3.alloc (.cells #[.int .i64 3, .int .i64 0, .slice none 0 0, .int .i64 1, .int .i64 a, .slice none 0 0] 25)).heap.size = w3.heap.size + 1 := by simp
  generalize w3.alloc (.cells #[.int .i64 3, .int .i64 0, .slice none 0 0, .int .i64 1, .int .i64 a, .slice none 0 0] 25) = w4 at BK hb_ hs1 ⊢
  replace BR := Aside0.mk (blk_below BR.out hb_)
  replace HB := Aside0.mk (below_step HB.out hb_)
  clear hb_
  have BV := Aside0.mk (heap_alloc_new w4 (.cells #[.int .i64 2, .slice none 0 0, .int .i64 6, .int .i64 0, .slice (some ⟨w3.heap.size, 0, none⟩) 2 2, .int .i64 0] 27))
  have hb_ := below_alloc (Below.refl w4.heap.size w4) (.cells #[.int .i64 2, .slice none 0 0, .int .i64 6, .int .i64 0, .slice (some ⟨w3.heap.size, 0, none⟩) 2 2, .int .i64 0] 27)
  generalize w4.alloc (.cells #[.int .i64 2, .slice none 0 0, .int .i64 6, .int .i64 0, .slice (some ⟨w3.heap.size, 0, none⟩) 2 2, .int .i64 0] 27) = w5 at BV hb_ ⊢
  rw [hs1] at BV
  replace BK := Aside0.mk (blk_below BK.out hb_)
  replace BR := Aside0.mk (blk_below BR.out hb_)
  replace HB := Aside0.mk (below_step HB.out hb_)
  clear hb_ hs1
  obtain ⟨gv0, HGV0⟩ : ∃ g, Aside0 (w3.heap.size + 1 = g) := ⟨_, ⟨rfl⟩⟩
  rw [HGV0.out] at BV ⊢
  obtain ⟨gk0, HGK0⟩ : ∃ g, Aside0 (w3.heap.size = g) := ⟨_, ⟨rfl⟩⟩
  rw [HGK0.out] at BK BV ⊢
  have HV0 : Aside0 (VB w5 gv0 gk0 2 6 a) := ⟨⟨BV.out, BK.out⟩⟩
  clear BV BK
  go_wp2_with fail
  refine (con_is b _).mono ?_
  rintro e w6 ⟨rfl, hb_⟩
  replace BR := Aside0.mk (blk_below BR.out hb_)
  replace HB := Aside0.mk (below_step HB.out hb_)
  replace HV0 := Aside0.mk (HV0.out.below hb_)
  clear hb_
  go_upto_region 4 with fail
  have BK := Aside0.mk (heap_alloc_new w6 (.cells #[.int .i64 3, .int .i64 0, .slice none 0 0, .int .i64 1, .int .i64 b, .slice none 0 0] 25))
  have hb_ := below_alloc (Below.refl w6.heap.size w6) (.cells #[.int .i64 3, .int .i64 0, .slice none 0 0, .int .i64 1, .int .i64 b, .slice none 0 0] 25)
  have hs1 : (w6.alloc (.cells #[.int .i64 3, .int .i64 0, .slice none 0 0, .int .i64 1, .int .i64 b, .slice none 0 0] 25)).heap.size = w6.heap.size + 1 := by simp
  generalize w6.alloc (.cells #[.int .i64 3, .int .i64 0, .slice none 0 0, .int .i64 1, .int .i64 b, .slice none 0 0] 25) = w7 at BK hb_ hs1 ⊢
  replace BR := Aside0.mk (blk_below BR.out hb_)
  replace HB := Aside0.mk (below_step HB.out hb_)
  replace HV0 := Aside0.mk (HV0.out.below hb_)
  clear hb_
  have BV := Aside0.mk (heap_alloc_new w7 (.cells #[.int .i64 2, .slice none 0 0, .int .i64 8, .int .i64 0, .slice (some ⟨w6.heap.size, 0, none⟩) 2 2, .int .i64 0] 27))
  have hb_ := below_alloc (Below.refl w7.heap.size w7) (.cells #[.int .i64 2, .slice none 0 0, .int .i64 8, .int .i64 0, .slice (some ⟨w6.heap.size, 0, none⟩) 2 2, .int .i64 0] 27)
  generalize w7.alloc (.cells #[.int .i64 2, .slice none 0 0, .int .i64 8, .int .i64 0, .slice (some ⟨w6.heap.size, 0, none⟩) 2 2, .int .i64 0] 27) = w8 at BV hb_ ⊢
  rw [hs1] at BV
  replace BK := Aside0.mk (blk_below BK.out hb_)
  replace BR := Aside0.mk (blk_below BR.out hb_)
  replace HB := Aside0.mk (below_step HB.out hb_)
  replace HV0 := Aside0.mk (HV0.out.below hb_)
  clear hb_ hs1
  obtain ⟨gv1, HGV1⟩ : ∃ g, Aside0 (w6.heap.size + 1 = g) := ⟨_, ⟨rfl⟩⟩
  rw [HGV1.out] at BV ⊢
  obtain ⟨gk1, HGK1⟩ : ∃ g, Aside0 (w6.heap.size = g) := ⟨_, ⟨rfl⟩⟩
  rw [HGK1.out] at BK BV ⊢
  have HV1 : Aside0 (VB w8 gv1 gk1 2 8 b) := ⟨⟨BV.out, BK.out⟩⟩
  clear BV BK
  go_wp2_with fail
  refine (con_is a _).mono ?_
  rintro e w9 ⟨rfl, hb_⟩
  replace BR := Aside0.mk (blk_below BR.out hb_)
  replace HB := Aside0.mk (below_step HB.out hb_)
  replace HV0 := Aside0.mk (HV0.out.below hb_)
  replace HV1 := Aside0.mk (HV1.out.below hb_)
  clear hb_
  go_upto_region 5 with fail
  have BK := Aside0.mk (heap_alloc_new w9 (.cells #[.int .i64 3, .int .i64 0, .slice none 0 0, .int .i64 1, .int .i64 a, .slice none 0 0] 25))
  have hb_ := below_alloc (Below.refl w9.heap.size w9) (.cells #[.int .i64 3, .int .i64 0, .slice none 0 0, .int .i64 1, .int .i64 a, .slice none 0 0] 25)
  have hs1 : (w9.alloc (.cells #[.int .i64 3, .int .i64 0, .slice none 0 0, .int .i64 1, .int .i64 a, .slice none 0 0] 25)).heap.size = w9.heap.size + 1 := by simp
  generalize w9.alloc (.cells #[.int .i64 3, .int .i64 0, .slice none 0 0, .int .i64 1, .int .i64 a, .slice none 0 0] 25) = w10 at BK hb_ hs1 ⊢
  replace BR := Aside0.mk (blk_below BR.out hb_)
  replace HB := Aside0.mk (below_step HB.out hb_)
  replace HV0 := Aside0.mk (HV0.out.below hb_)
  replace HV1 := Aside0.mk (HV1.out.below hb_)
  clear hb_
  have BV := Aside0.mk (heap_alloc_new w10 (.cells #[.int .i64 3, .slice none 0 0, .int .i64 11, .int .i64 0, .slice (some ⟨w9.heap.size, 0, none⟩) 2 2, .int .i64 0] 27))
  have hb_ := below_alloc (Below.refl w10.heap.size w10) (.cells #[.int .i64 3, .slice none 0 0, .int .i64 11, .int .i64 0, .slice (some ⟨w9.heap.size, 0, none⟩) 2 2, .int .i64 0] 27)
  generalize w10.alloc (.cells #[.int .i64 3, .slice none 0 0, .int .i64 11, .int .i64 0, .slice (some ⟨w9.heap.size, 0, none⟩) 2 2, .int .i64 0] 27) = w11 at BV hb_ ⊢
  rw [hs1] at BV
  replace BK := Aside0.mk (blk_below BK.out hb_)
  replace BR := Aside0.mk (blk_below BR.out hb_)
  replace HB := Aside0.mk (below_step HB.out hb_)
  replace HV0 := Aside0.mk (HV0.out.below hb_)
  replace HV1 := Aside0.mk (HV1.out.below hb_)
  clear hb_ hs1
  obtain ⟨gv2, HGV2⟩ : ∃ g, Aside0 (w9.heap.size + 1 = g) := ⟨_, ⟨rfl⟩⟩
  rw [HGV2.out] at BV ⊢
  obtain ⟨gk2, HGK2⟩ : ∃ g, Aside0 (w9.heap.size = g) := ⟨_, ⟨rfl⟩⟩
  rw [HGK2.out] at BK BV ⊢
  have HV2 : Aside0 (VB w11 gv2 gk2 3 11 a) := ⟨⟨BV.out, BK.out⟩⟩
  clear BV BK
  obtain ⟨c00_, c01_, c02_, c03_, c04_, c05_⟩ := HV0.out.cells
  obtain ⟨c10_, c11_, c12_, c13_, c14_, c15_⟩ := HV1.out.cells
  have y0_ := (blk_cell (blk_below BR.out (below_alloc (Below.refl w11.heap.size w11) (.cells #[.int .i64 2, .slice none 0 0, .int .i64 6, .int .i64 0, .slice (some ⟨gk0, 0, none⟩) 2 2, .int .i64 0, .int .i64 2, .slice none 0 0, .int .i64 8, .int .i64 0, .slice (some ⟨gk1, 0, none⟩) 2 2, .int .i64 0] 27))) 0).trans (rfl : _ = some (.int .i64 r.f0 : Value))
  have y1_ := (blk_cell (blk_below BR.out (below_alloc (Below.refl w11.heap.size w11) (.cells #[.int .i64 2, .slice none 0 0, .int .i64 6, .int .i64 0, .slice (some ⟨gk0, 0, none⟩) 2 2, .int .i64 0, .int .i64 2, .slice none 0 0, .int .i64 8, .int .i64 0, .slice (some ⟨gk1, 0, none⟩) 2 2, .int .i64 0] 27))) 1).trans (rfl : _ = some (.int .i64 r.f1 : Value))
  have y2_ := (blk_cell (blk_below BR.out (below_alloc (Below.refl w11.heap.size w11) (.cells #[.int .i64 2, .slice none 0 0, .int .i64 6, .int .i64 0, .slice (some ⟨gk0, 0, none⟩) 2 2, .int .i64 0, .int .i64 2, .slice none 0 0, .int .i64 8, .int .i64 0, .slice (some ⟨gk1, 0, none⟩) 2 2, .int .i64 0] 27))) 2).trans (rfl : _ = some (.int .i64 r.f2 : Value))
  go_wp2_with fail
  have hC_ := Aside0.mk (two_V HV0.out HV1.out)
  refine (chain_ok _ 2 [qV 2 6 a, qV 2 8 b] r _ hC_.out (Nat.le_refl _) (by simp)).mono ?_
  rintro e w12 ⟨v0, he_, hr_, hb_⟩
  rw [chain_two a b r] at he_ hr_
  simp only at he_ hr_
  subst he_
  replace hr_ := Kd.R_lower hr_ (Nat.zero_le _)
  have HR0 := Aside0.mk hr_
  replace hb_ := below_step (below_alloc (Below.refl _ _) _) hb_
  replace BR := Aside0.mk (blk_below BR.out hb_)
  replace HB := Aside0.mk (below_step HB.out hb_)
  replace HV0 := Aside0.mk (HV0.out.below hb_)
  replace HV1 := Aside0.mk (HV1.out.below hb_)
  replace HV2 := Aside0.mk (HV2.out.below hb_)
  clear hr_ hb_ hC_ y0_ y1_ y2_ c00_ c01_ c02_ c03_ c04_ c05_ c10_ c11_ c12_ c13_ c14_ c15_
  obtain ⟨c00_, c01_, c02_, c03_, c04_, c05_⟩ := HV2.out.cells
  have y0_ := (blk_cell (blk_below BR.out (below_alloc (Below.refl w12.heap.size w12) (.cells #[.int .i64 3, .slice none 0 0, .int .i64 11, .int .i64 0, .slice (some ⟨gk2, 0, none⟩) 2 2, .int .i64 0, .int .i64 3, .slice none 0 0, .int .i64 11, .int .i64 0, .slice (some ⟨gk2, 0, none⟩) 2 2, .int .i64 0] 27))) 0).trans (rfl : _ = some (.int .i64 r.f0 : Value))
  have y1_ := (blk_cell (blk_below BR.out (below_alloc (Below.refl w12.heap.size w12) (.cells #[.int .i64 3, .slice none 0 0, .int .i64 11, .int .i64 0, .slice (some ⟨gk2, 0, none⟩) 2 2, .int .i64 0, .int .i64 3, .slice none 0 0, .int .i64 11, .int .i64 0, .slice (some ⟨gk2, 0, none⟩) 2 2, .int .i64 0] 27))) 1).trans (rfl : _ = some (.int .i64 r.f1 : Value))
  have y2_ := (blk_cell (blk_below BR.out (below_alloc (Below.refl w12.heap.size w12) (.cells #[.int .i64 3, .slice none 0 0, .int .i64 11, .int .i64 0, .slice (some ⟨gk2, 0, none⟩) 2 2, .int .i64 0, .int .i64 3, .slice none 0 0, .int .i64 11, .int .i64 0, .slice (some ⟨gk2, 0, none⟩) 2 2, .int .i64 0] 27))) 2).trans (rfl : _ = some (.int .i64 r.f2 : Value))
  go_wp2_with fail
  have hC_ := Aside0.mk (two_V HV2.out HV2.out)
  refine (chain_ok _ 2 [qV 3 11 a, qV 3 11 a] r _ hC_.out (Nat.le_refl _) (by simp)).mono ?_
  rintro e w13 ⟨v1, he_, hr_, hb_⟩
  rw [chain_less2 a r] at he_ hr_
  simp only at he_ hr_
  subst he_
  replace hr_ := Kd.R_lower hr_ (Nat.zero_le _)
  have HR1 := Aside0.mk hr_
  replace hb_ := below_step (below_alloc (Below.refl _ _) _) hb_
  replace BR := Aside0.mk (blk_below BR.out hb_)
  replace HB := Aside0.mk (below_step HB.out hb_)
  replace HV0 := Aside0.mk (HV0.out.below hb_)
  replace HV1 := Aside0.mk (HV1.out.below hb_)
  replace HV2 := Aside0.mk (HV2.out.below hb_)
  replace HR0 := Aside0.mk (Kd.R_below HR0.out hb_)
  clear hr_ hb_ hC_ y0_ y1_ y2_ c00_ c01_ c02_ c03_ c04_ c05_
  obtain ⟨c00_, c01_, c02_, c03_, c04_, c05_⟩ := HV2.out.cells
  have y0_ := (blk_cell (blk_below BR.out (below_alloc (Below.refl w13.heap.size w13) (.cells #[.int .i64 3, .slice none 0 0, .int .i64 11, .int .i64 0, .slice (some ⟨gk2, 0, none⟩) 2 2, .int .i64 0] 27))) 0).trans (rfl : _ = some (.int .i64 r.f0 : Value))
  have y1_ := (blk_cell (blk_below BR.out (below_alloc (Below.refl w13.heap.size w13) (.cells #[.int .i64 3, .slice none 0 0, .int .i64 11, .int .i64 0, .slice (some ⟨gk2, 0, none⟩) 2 2, .int .i64 0] 27))) 1).trans (rfl : _ = some (.int .i64 r.f1 : Value))
  have y2_ := (blk_cell (blk_below BR.out (below_alloc (Below.refl w13.heap.size w13) (.cells #[.int .i64 3, .slice none 0 0, .int .i64 11, .int .i64 0, .slice (some ⟨gk2, 0, none⟩) 2 2, .int .i64 0] 27))) 2).trans (rfl : _ = some (.int .i64 r.f2 : Value))
  go_wp2_with fail
  have hC_ := Aside0.mk (one_V HV2.out)
  refine (chain_ok _ 1 [qV 3 11 a] r _ hC_.out (Nat.le_refl _) (by simp)).mono ?_
  rintro e w14 ⟨v2, he_, hr_, hb_⟩
  rw [chain_less1 a r] at he_ hr_
  simp only at he_ hr_
  subst he_
  replace hr_ := Kd.R_lower hr_ (Nat.zero_le _)
  have HR2 := Aside0.mk hr_
  replace hb_ := below_step (below_alloc (Below.refl _ _) _) hb_
  replace BR := Aside0.mk (blk_below BR.out hb_)
  replace HB := Aside0.mk (below_step HB.out hb_)
  replace HV0 := Aside0.mk (HV0.out.below hb_)
  replace HV1 := Aside0.mk (HV1.out.below hb_)
  replace HV2 := Aside0.mk (HV2.out.below hb_)
  replace HR0 := Aside0.mk (Kd.R_below HR0.out hb_)
  replace HR1 := Aside0.mk (Kd.R_below HR1.out hb_)
  clear hr_ hb_ hC_ y0_ y1_ y2_ c00_ c01_ c02_ c03_ c04_ c05_
  obtain ⟨Ax, cx, rfl⟩ := Kd.R_slice HR0.out
  obtain ⟨Ay, cy, rfl⟩ := Kd.R_slice HR1.out
  obtain ⟨Az, cz, rfl⟩ := Kd.R_slice HR2.out
  obtain ⟨ly, HLY⟩ : ∃ l, Aside0 (lessL a r = l) := ⟨_, ⟨rfl⟩⟩
  have HLN : Aside0 (ly.length = if r.f1 < a then 1 else 0) := ⟨by rw [← HLY.out]; unfold lessL; split <;> rfl⟩
  rw [HLY.out] at HR1 HR2 ⊢
  obtain ⟨m, HM⟩ : ∃ m, Aside0 (wrap64 (wrap64 (r.f1 + a) * b) = m) := ⟨_, ⟨rfl⟩⟩
  rw [HM.out] at HR0 ⊢
  obtain ⟨lx, HLX⟩ : ∃ l, Aside0 (([⟨r.f0, m, r.f2⟩] : List Rc) = l) := ⟨_, ⟨rfl⟩⟩
  rw [HLX.out] at HR0 ⊢
  have hx1 : ((lx.length : Int) != 1) = false := by rw [← HLX.out]; rfl
  have hx0 : 0 < lx.length := by rw [← HLX.out]; simp
  go_upto_region 10 with fail
  clear hx1
  obtain ⟨ad, hA, x0_, x1_, x2_⟩ := at_T29 (Kd.R_reads' HR0.out).2.2 0 (by omega) (by omega)
  subst hA
  have HX1 : Aside0 (w14.cell? ⟨ad.block, ad.off + 1, none⟩ = some (.int .i64 m)) := ⟨by
    have h := x1_
    rw [← HLX.out] at h
    simp only [show ((0 : Int).toNat * 3) = 0 from rfl, Addr.add_zero'] at h
    exact h⟩
  clear x0_ x1_ x2_
  have HHA : Aside0 (((ly.length : Int) == 1) = decide (r.f1 < a)) := ⟨by rw [HLN.out]; by_cases h : r.f1 < a <;> simp [h]⟩
  have HRE := Aside0.mk (recs_same ly (by have := HLN.out; split at this <;> omega))
  refine start_ (n := 30) (S := fun w' => Below w14.heap.size w14 w') (ds := []) #[false, false, false, false, false, false, false, false, false, false, false, false, false, false, false, false, false, false, false, false, false, false, false, false, false, false, false, false, false, false] (by kernel_rfl) rfl rfl (below_drew (Below.refl _ _)) (fun hHeld => ?_)
  refine pure_ (i := 0) (N := some 80) (v := ?_) (a' := ?_) #[true, false, false, false, false, false, false, false, false, false, false, false, false, false, false, false, false, false, false, false, false, false, false, false, false, false, false, false, false, false] rfl rfl (by kernel_rfl) (fun _ _ _ h => h) (Or.inl ⟨by rfl, ?_⟩) ?_ ?_
  rotate_left
  · intro w'
    go_simp
    with_reducible rfl
  rotate_left
  · simp only [Act.put, List.setIfInBounds_toArray, List.set_cons_zero, List.set_cons_succ, i64_w, i32_w]
    rfl
  refine pure_ (i := 1) (N := some 81) (v := ?_) (a' := ?_) #[true, true, false, false, false, false, false, false, false, false, false, false, false, false, false, false, false, false, false, false, false, false, false, false, false, false, false, false, false, false] rfl rfl (by kernel_rfl) (fun _ _ _ h => h) (Or.inl ⟨by rfl, ?_⟩) ?_ ?_
  rotate_left
  · intro w'
    go_simp
    with_reducible rfl
  rotate_left
  · simp only [Act.put, List.setIfInBounds_toArray, List.set_cons_zero, List.set_cons_succ, i64_w, i32_w]
    rfl
  refine pure_ (i := 2) (N := some 82) (v := ?_) (a' := ?_) #[true, true, true, false, false, false, false, false, false, false, false, false, false, false, false, false, false, false, false, false, false, false, false, false, false, false, false, false, false, false] rfl rfl (by kernel_rfl) (fun _ _ _ h => h) (Or.inl ⟨by rfl, ?_⟩) ?_ ?_
  rotate_left
  · intro w'
    go_simp
    with_reducible rfl
  rotate_left
  · simp only [Act.put, List.setIfInBounds_toArray, List.set_cons_zero, List.set_cons_succ, i64_w, i32_w]
    rfl
  refine pure_ (i := 3) (N := some 83) (v := ?_) (a' := ?_) #[true, true, true, true, false, false, false, false, false, false, false, false, false, false, false, false, false, false, false, false, false, false, false, false, false, false, false, false, false, false] rfl rfl (by kernel_rfl) (fun _ _ _ h => h) (Or.inl ⟨by rfl, ?_⟩) ?_ ?_
  rotate_left
  · intro w'
    go_simp
    with_reducible rfl
  rotate_left
  · simp only [Act.put, List.setIfInBounds_toArray, List.set_cons_zero, List.set_cons_succ, i64_w, i32_w]
    rfl
  refine pure_ (i := 4) (N := some 84) (v := ?_) (a' := ?_) #[true, true, true, true, true, false, false, false, false, false, false, false, false, false, false, false, false, false, false, false, false, false, false, false, false, false, false, false, false, false] rfl rfl (by kernel_rfl) (fun _ _ _ h => h) (Or.inl ⟨by rfl, ?_⟩) ?_ ?_
  rotate_left
  · intro w'
    go_simp
    with_reducible rfl
  rotate_left
  · simp only [Act.put, List.setIfInBounds_toArray, List.set_cons_zero, List.set_cons_succ, i64_w, i32_w]
    rfl
  refine pure_ (i := 6) (N := some 86) (v := ?_) (a' := ?_) #[true, true, true, true, true, false, true, false, false, false, false, false, false, false, false, false, false, false, false, false, false, false, false, false, false, false, false, false, false, false] rfl rfl (by kernel_rfl) (fun _ _ _ h => h) (Or.inl ⟨by rfl, ?_⟩) ?_ ?_
  rotate_left
  · intro w'
    go_simp
    with_reducible rfl
  rotate_left
  · simp only [Act.put, List.setIfInBounds_toArray, List.set_cons_zero, List.set_cons_succ, i64_w, i32_w]
    rfl
  refine pure_ (i := 8) (N := some 88) (v := ?_) (a' := ?_) #[true, true, true, true, true, false, true, false, true, false, false, false, false, false, false, false, false, false, false, false, false, false, false, false, false, false, false, false, false, false] rfl rfl (by kernel_rfl) (fun _ _ _ h => h) (Or.inl ⟨by rfl, ?_⟩) ?_ ?_
  rotate_left
  · intro w'
    go_simp
    with_reducible rfl
  rotate_left
  · simp only [Act.put, List.setIfInBounds_toArray, List.set_cons_zero, List.set_cons_succ, i64_w, i32_w]
    rfl
  refine pure_ (i := 10) (N := some 90) (v := ?_) (a' := ?_) #[true, true, true, true, true, false, true, false, true, false, true, false, false, false, false, false, false, false, false, false, false, false, false, false, false, false, false, false, false, false] rfl rfl (by kernel_rfl) (fun _ _ _ h => h) (Or.inl ⟨by rfl, ?_⟩) ?_ ?_
  rotate_left
  · intro w'
    go_simp
    with_reducible rfl
  rotate_left
  · simp only [Act.put, List.setIfInBounds_toArray, List.set_cons_zero, List.set_cons_succ, i64_w, i32_w]
    rfl
  refine take_ (i := 5) (N := some 85) (v := ?_) (a' := ?_) #[true, true, true, true, true, true, true, false, true, false, true, false, false, false, false, false, false, false, false, false, false, false, false, false, false, false, false, false, false, false] rfl rfl (by kernel_rfl) (fun _ _ _ h => h) (Or.inl ⟨by rfl, ?_⟩) hHeld ?_ ?_
  rotate_left
  · intro w' hS
    have x_ := pw_cell_below hS HX1.out
    go_simp
    with_reducible rfl
  rotate_left
  · simp only [Act.put, List.setIfInBounds_toArray, List.set_cons_zero, List.set_cons_succ, i64_w, i32_w]
    rfl
  refine take_ (i := 7) (N := some 87) (v := ?_) (a' := ?_) #[true, true, true, true, true, true, true, true, true, false, true, false, false, false, false, false, false, false, false, false, false, false, false, false, false, false, false, false, false, false] rfl rfl (by kernel_rfl) (fun _ _ _ h => h) (Or.inl ⟨by rfl, ?_⟩) hHeld ?_ ?_
  rotate_left
  · intro w' hS
    have x_ := (blk_cell (blk_below BR.out hS) 1).trans (rfl : _ = some (.int .i64 r.f1 : Value))
    go_simp
    with_reducible rfl
  rotate_left
  · simp only [Act.put, List.setIfInBounds_toArray, List.set_cons_zero, List.set_cons_succ, i64_w, i32_w]
    rfl
  refine pure_ (i := 9) (N := some 89) (v := ?_) (a' := ?_) #[true, true, true, true, true, true, true, true, true, true, true, false, false, false, false, false, false, false, false, false, false, false, false, false, false, false, false, false, false, false] rfl rfl (by kernel_rfl) (fun _ _ _ h => h) (Or.inl ⟨by rfl, ?_⟩) ?_ ?_
  rotate_left
  · intro w'
    go_simp
    with_reducible rfl
  rotate_left
  · simp only [Act.put, List.setIfInBounds_toArray, List.set_cons_zero, List.set_cons_succ, i64_w, i32_w]
    rfl
  refine pure_ (i := 11) (N := some 91) (v := ?_) (a' := ?_) #[true, true, true, true, true, true, true, true, true, true, true, true, false, false, false, false, false, false, false, false, false, false, false, false, false, false, false, false, false, false] rfl rfl (by kernel_rfl) (fun _ _ _ h => h) (Or.inl ⟨by rfl, ?_⟩) ?_ ?_
  rotate_left
  · intro w'
    go_simp
    with_reducible rfl
  rotate_left
  · simp only [Act.put, List.setIfInBounds_toArray, List.set_cons_zero, List.set_cons_succ, i64_w, i32_w]
    rfl
  refine pure_ (i := 12) (N := some 92) (v := ?_) (a' := ?_) #[true, true, true, true, true, true, true, true, true, true, true, true, true, false, false, false, false, false, false, false, false, false, false, false, false, false, false, false, false, false] rfl rfl (by kernel_rfl) (fun _ _ _ h => h) (Or.inl ⟨by rfl, ?_⟩) ?_ ?_
  rotate_left
  · intro w'
    have hm_ := HM.out
    go_simp
    with_reducible rfl
  rotate_left
  · simp only [Act.put, List.setIfInBounds_toArray, List.set_cons_zero, List.set_cons_succ, i64_w, i32_w]
    rfl
  refine pure_ (i := 13) (N := some 93) (v := ?_) (a' := ?_) #[true, true, true, true, true, true, true, true, true, true, true, true, true, true, false, false, false, false, false, false, false, false, false, false, false, false, false, false, false, false] rfl rfl (by kernel_rfl) (fun _ _ _ h => h) (Or.inl ⟨by rfl, ?_⟩) ?_ ?_
  rotate_left
  · intro w'
    go_simp
    with_reducible rfl
  rotate_left
  · simp only [Act.put, List.setIfInBounds_toArray, List.set_cons_zero, List.set_cons_succ, i64_w, i32_w]
    rfl
  refine pure_ (i := 14) (N := some 94) (v := ?_) (a' := ?_) #[true, true, true, true, true, true, true, true, true, true, true, true, true, true, true, false, false, false, false, false, false, false, false, false, false, false, false, false, false, false] rfl rfl (by kernel_rfl) (fun _ _ _ h => h) (Or.inl ⟨by rfl, ?_⟩) ?_ ?_
  rotate_left
  · intro w'
    go_simp
    with_reducible rfl
  rotate_left
  · simp only [Act.put, List.setIfInBounds_toArray, List.set_cons_zero, List.set_cons_succ, i64_w, i32_w]
    rfl
  refine pure_ (i := 15) (N := some 95) (v := ?_) (a' := ?_) #[true, true, true, true, true, true, true, true, true, true, true, true, true, true, true, true, false, false, false, false, false, false, false, false, false, false, false, false, false, false] rfl rfl (by kernel_rfl) (fun _ _ _ h => h) (Or.inl ⟨by rfl, ?_⟩) ?_ ?_
  rotate_left
  · intro w'
    go_simp
    with_reducible rfl
  rotate_left
  · simp only [Act.put, List.setIfInBounds_toArray, List.set_cons_zero, List.set_cons_succ, i64_w, i32_w]
    rfl
  refine pure_ (i := 16) (N := some 96) (v := ?_) (a' := ?_) #[true, true, true, true, true, true, true, true, true, true, true, true, true, true, true, true, true, false, false, false, false, false, false, false, false, false, false, false, false, false] rfl rfl (by kernel_rfl) (fun _ _ _ h => h) (Or.inl ⟨by rfl, ?_⟩) ?_ ?_
  rotate_left
  · intro w'
    go_simp
    with_reducible rfl
  rotate_left
  · simp only [Act.put, List.setIfInBounds_toArray, List.set_cons_zero, List.set_cons_succ, i64_w, i32_w]
    rfl
  refine one_ (i := 17) (N := some 97) #[true, true, true, true, true, true, true, true, true, true, true, true, true, true, true, true, true, true, false, false, false, false, false, false, false, false, false, false, false, false] rfl rfl (by kernel_rfl) (by simp) (fun K hK => ?_)
  refine goes_ Try.func13 (by kernel_rfl) rfl #[.slice Ay ly.length cy, .slice Az ly.length cz] (by rfl) rfl rfl (by simp only [List.map_toArray, List.map_cons, List.map_nil]; rfl) ?_
  with_reducible refine (recs_ok ly Ay cy Az cz _ (Kd.C_below (Kd.R_reads' HR1.out).2.2 (below_drew (Below.refl _ _))) (Kd.R_reads' HR1.out).2.1 (Kd.C_below (Kd.R_reads' HR2.out).2.2 (below_drew (Below.refl _ _))) (Kd.R_reads' HR2.out).2.1 HRE.out).mono ?_
  rintro e w15 ⟨rfl, hb_⟩
  refine ⟨_, rfl, ?_⟩
  replace hb_ := below_step hHeld hb_
  refine hK.out _ _ hb_ (fun _ => ?_)
  clear hK K hHeld
  refine norm_ (a' := ?_) ?_ ?_
  rotate_left
  · show Act.put _ (some 97) _ = _
    simp only [Act.put, List.setIfInBounds_toArray, List.set_cons_zero, List.set_cons_succ, i64_w, i32_w]
    rfl
  refine stronger_ (S' := fun w' => Below w15.heap.size w15 w') (fun w' h => below_step hb_ h) (Below.refl _ _) ?_
  have hHeld := Below.refl w15.heap.size w15
  replace BR := Aside0.mk (blk_below BR.out hb_)
  replace HB := Aside0.mk (below_step HB.out hb_)
  clear hb_
  refine pure_ (i := 18) (N := some 98) (v := ?_) (a' := ?_) #[true, true, true, true, true, true, true, true, true, true, true, true, true, true, true, true, true, true, true, false, false, false, false, false, false, false, false, false, false, false] rfl rfl (by kernel_rfl) (fun _ _ _ h => h) (Or.inl ⟨by rfl, ?_⟩) ?_ ?_
  rotate_left
  · intro w'
    go_simp
    with_reducible rfl
  rotate_left
  · simp only [Act.put, List.setIfInBounds_toArray, List.set_cons_zero, List.set_cons_succ, i64_w, i32_w]
    rfl
  refine pure_ (i := 19) (N := some 99) (v := ?_) (a' := ?_) #[true, true, true, true, true, true, true, true, true, true, true, true, true, true, true, true, true, true, true, true, false, false, false, false, false, false, false, false, false, false] rfl rfl (by kernel_rfl) (fun _ _ _ h => h) (Or.inl ⟨by rfl, ?_⟩) ?_ ?_
  rotate_left
  · intro w'
    go_simp
    with_reducible rfl
  rotate_left
  · simp only [Act.put, List.setIfInBounds_toArray, List.set_cons_zero, List.set_cons_succ, i64_w, i32_w]
    rfl
  refine pure_ (i := 20) (N := some 100) (v := ?_) (a' := ?_) #[true, true, true, true, true, true, true, true, true, true, true, true, true, true, true, true, true, true, true, true, true, false, false, false, false, false, false, false, false, false] rfl rfl (by kernel_rfl) (fun _ _ _ h => h) (Or.inl ⟨by rfl, ?_⟩) ?_ ?_
  rotate_left
  · intro w'
    go_simp
    with_reducible rfl
  rotate_left
  · simp only [Act.put, List.setIfInBounds_toArray, List.set_cons_zero, List.set_cons_succ, i64_w, i32_w]
    rfl
  refine pure_ (i := 21) (N := some 101) (v := ?_) (a' := ?_) #[true, true, true, true, true, true, true, true, true, true, true, true, true, true, true, true, true, true, true, true, true, true, false, false, false, false, false, false, false, false] rfl rfl (by kernel_rfl) (fun _ _ _ h => h) (Or.inl ⟨by rfl, ?_⟩) ?_ ?_
  rotate_left
  · intro w'
    go_simp
    with_reducible rfl
  rotate_left
  · simp only [Act.put, List.setIfInBounds_toArray, List.set_cons_zero, List.set_cons_succ, i64_w, i32_w]
    rfl
  refine pure_ (i := 22) (N := some 102) (v := ?_) (a' := ?_) #[true, true, true, true, true, true, true, true, true, true, true, true, true, true, true, true, true, true, true, true, true, true, true, false, false, false, false, false, false, false] rfl rfl (by kernel_rfl) (fun _ _ _ h => h) (Or.inl ⟨by rfl, ?_⟩) ?_ ?_
  rotate_left
  · intro w'
    have hm_ := HHA.out
    go_simp
    with_reducible rfl
  rotate_left
  · simp only [Act.put, List.setIfInBounds_toArray, List.set_cons_zero, List.set_cons_succ, i64_w, i32_w]
    rfl
  refine pure_ (i := 23) (N := some 103) (v := ?_) (a' := ?_) #[true, true, true, true, true, true, true, true, true, true, true, true, true, true, true, true, true, true, true, true, true, true, true, true, false, false, false, false, false, false] rfl rfl (by kernel_rfl) (fun _ _ _ h => h) (Or.inl ⟨by rfl, ?_⟩) ?_ ?_
  rotate_left
  · intro w'
    go_simp
    with_reducible rfl
  rotate_left
  · simp only [Act.put, List.setIfInBounds_toArray, List.set_cons_zero, List.set_cons_succ, i64_w, i32_w]
    rfl
  refine pure_ (i := 25) (N := some 105) (v := ?_) (a' := ?_) #[true, true, true, true, true, true, true, true, true, true, true, true, true, true, true, true, true, true, true, true, true, true, true, true, false, true, false, false, false, false] rfl rfl (by kernel_rfl) (fun _ _ _ h => h) (Or.inl ⟨by rfl, ?_⟩) ?_ ?_
  rotate_left
  · intro w'
    go_simp
    with_reducible rfl
  rotate_left
  · simp only [Act.put, List.setIfInBounds_toArray, List.set_cons_zero, List.set_cons_succ, i64_w, i32_w]
    rfl
  refine take_ (i := 24) (N := some 104) (v := ?_) (a' := ?_) #[true, true, true, true, true, true, true, true, true, true, true, true, true, true, true, true, true, true, true, true, true, true, true, true, true, true, false, false, false, false] rfl rfl (by kernel_rfl) (fun _ _ _ h => h) (Or.inl ⟨by rfl, ?_⟩) hHeld ?_ ?_
  rotate_left
  · intro w' hS
    have x_ := (blk_cell (blk_below BR.out hS) 1).trans (rfl : _ = some (.int .i64 r.f1 : Value))
    go_simp
    with_reducible rfl
  rotate_left
  · simp only [Act.put, List.setIfInBounds_toArray, List.set_cons_zero, List.set_cons_succ, i64_w, i32_w]
    rfl
  refine pure_ (i := 26) (N := some 106) (v := ?_) (a' := ?_) #[true, true, true, true, true, true, true, true, true, true, true, true, true, true, true, true, true, true, true, true, true, true, true, true, true, true, true, false, false, false] rfl rfl (by kernel_rfl) (fun _ _ _ h => h) (Or.inl ⟨by rfl, ?_⟩) ?_ ?_
  rotate_left
  · intro w'
    go_simp
    with_reducible rfl
  rotate_left
  · simp only [Act.put, List.setIfInBounds_toArray, List.set_cons_zero, List.set_cons_succ, i64_w, i32_w]
    rfl
  refine pure_ (i := 27) (N := some 107) (v := ?_) (a' := ?_) #[true, true, true, true, true, true, true, true, true, true, true, true, true, true, true, true, true, true, true, true, true, true, true, true, true, true, true, true, false, false] rfl rfl (by kernel_rfl) (fun _ _ _ h => h) (Or.inl ⟨by rfl, ?_⟩) ?_ ?_
  rotate_left
  · intro w'
    go_simp
    with_reducible rfl
  rotate_left
  · simp only [Act.put, List.setIfInBounds_toArray, List.set_cons_zero, List.set_cons_succ, i64_w, i32_w]
    rfl
  refine pure_ (i := 28) (N := some 108) (v := ?_) (a' := ?_) #[true, true, true, true, true, true, true, true, true, true, true, true, true, true, true, true, true, true, true, true, true, true, true, true, true, true, true, true, true, false] rfl rfl (by kernel_rfl) (fun _ _ _ h => h) (Or.inl ⟨by rfl, ?_⟩) ?_ ?_
  rotate_left
  · intro w'
    go_simp
    with_reducible rfl
  rotate_left
  · simp only [Act.put, List.setIfInBounds_toArray, List.set_cons_zero, List.set_cons_succ, i64_w, i32_w]
    rfl
  refine pure_ (i := 29) (N := some 6) (v := ?_) (a' := ?_) #[true, true, true, true, true, true, true, true, true, true, true, true, true, true, true, true, true, true, true, true, true, true, true, true, true, true, true, true, true, true] rfl rfl (by kernel_rfl) (fun _ _ _ h => h) (Or.inl ⟨by rfl, ?_⟩) ?_ ?_
  rotate_left
  · intro w'
    go_simp
    with_reducible rfl
  rotate_left
  · simp only [Act.put, List.setIfInBounds_toArray, List.set_cons_zero, List.set_cons_succ, i64_w, i32_w]
    rfl
  refine done_ (by kernel_rfl) ?_

  go_wp2
  go_ret
  exact ⟨rfl, HB.out⟩
end Go.Proofs.Ythkilejcddgodaa.Ex
