/- The contract of (expr.world).value: an expression that fits has a value, or ends in a division by 0. -/
import Derived.Test.YtpcbcekfakjgkaaExTwo
import Derived.Test.YtpcbcekfakjgkaaGw
namespace Go.Proofs.Ytpcbcekfakjgkaa.Ex
open Go Go.RowKit Go.Proofs.YtpcbcekfakjgkaaW.PrintWords Go.Proofs.YtpcbcekfakjgkaaW.PrintLast Go.Proofs.YtpcbcekfakjgkaaW.PrintMore Go.Proofs.Ytpcbcekfakjgkaa.Gw
attribute [local go_sem] max2_int min2_int max_two min_two
set_option linter.unusedVariables false
set_option linter.unusedSimpArgs false
set_option maxHeartbeats 2000000
set_option maxRecDepth 100000
/-- What a call of value says, for expressions that are d deep at the most. -/
def ValAt (d : Nat) : Prop := ∀ (e : E) (A : Option Addr) (c : Nat) (ky vl tm ac : Int) (v : Option Int) (w : World), fits d e → Kd.C k27 w A e.f2.length e.f2 → e.f2.length ≤ c → valOf d ky vl tm ac e = v →
  Calls Try.prog 27 #[.agg #[.int .i64 ky, .int .i64 vl, .int .i64 tm, .int .i64 ac], .agg #[.int .i64 e.f0, .int .i64 e.f1, .slice A e.f2.length c]] w fun e' w' => e' = ends v ∧ Below w.heap.size w w'
/-- The frame's two variables. -/
structure Two (w0 w : World) (g1 g2 : Nat) (ky vl tm ac op n : Int) (A : Option Addr) (m c : Nat) (l : List E) : Prop where
  b1 : w.heap[g1]? = some (.cells #[.int .i64 ky, .int .i64 vl, .int .i64 tm, .int .i64 ac] 56 (0, 0))
  b2 : w.heap[g2]? = some (.cells #[.int .i64 op, .int .i64 n, .slice A m c] 27 (0, 0))
  bl : Below w0.heap.size w0 w
  rd : Kd.C k27 w A m l
theorem Two.step {w0 w w2 : World} {g1 g2 : Nat} {ky vl tm ac op n : Int} {A : Option Addr} {m c : Nat} {l : List E} (h : Two w0 w g1 g2 ky vl tm ac op n A m c l) (hb : Below w.heap.size w w2) : Two w0 w2 g1 g2 ky vl tm ac op n A m c l :=
  ⟨blk_below h.b1 hb, blk_below h.b2 hb, below_step h.bl hb, Kd.C_below h.rd hb⟩
theorem Two.w0 {w0 w : World} {g1 g2 : Nat} {ky vl tm ac op n : Int} {A : Option Addr} {m c : Nat} {l : List E} (h : Two w0 w g1 g2 ky vl tm ac op n A m c l) : w.cell? ⟨g1, 0, none⟩ = some (.int .i64 ky) ∧ w.cell? ⟨g1, 1, none⟩ = some (.int .i64 vl) ∧ w.cell? ⟨g1, 2, none⟩ = some (.int .i64 tm) ∧ w.cell? ⟨g1, 3, none⟩ = some (.int .i64 ac) :=
  ⟨(blk_cell h.b1 0).trans rfl, (blk_cell h.b1 1).trans rfl, (blk_cell h.b1 2).trans rfl, (blk_cell h.b1 3).trans rfl⟩
theorem Two.e0 {w0 w : World} {g1 g2 : Nat} {ky vl tm ac op n : Int} {A : Option Addr} {m c : Nat} {l : List E} (h : Two w0 w g1 g2 ky vl tm ac op n A m c l) : w.cell? ⟨g2, 0, none⟩ = some (.int .i64 op) ∧ w.cell? ⟨g2, 1, none⟩ = some (.int .i64 n) ∧ w.cell? ⟨g2, 2, none⟩ = some (.slice A m c) :=
  ⟨(blk_cell h.b2 0).trans rfl, (blk_cell h.b2 1).trans rfl, (blk_cell h.b2 2).trans rfl⟩
structure Kid (w : World) (ad : Addr) (x : E) (A2 : Option Addr) (c2 : Nat) : Prop where
  k0 : w.cell? ad = some (.int .i64 x.f0)
  k1 : w.cell? ⟨ad.block, ad.off + 1, none⟩ = some (.int .i64 x.f1)
  k2 : w.cell? ⟨ad.block, ad.off + 2, none⟩ = some (.slice A2 x.f2.length c2)
  kl : x.f2.length ≤ c2
  kr : Kd.C k27 w A2 x.f2.length x.f2
theorem Kid.step {w w2 : World} {ad : Addr} {x : E} {A2 : Option Addr} {c2 : Nat} (h : Kid w ad x A2 c2) (hb : Below w.heap.size w w2) : Kid w2 ad x A2 c2 :=
  ⟨pw_cell_below hb h.k0, pw_cell_below hb h.k1, pw_cell_below hb h.k2, h.kl, Kd.C_below h.kr hb⟩
theorem kid_cell {w : World} {ad : Addr} {m : Nat} {l : List E} (h : Kd.C k27 w (some ad) m l) (i : Nat) (hi : i < m) {q : Addr} (hq : ad.add (i * 3) = q) (x : E) (hx : l.getD i z27 = x) : ∃ A2 c2, Kid w q x A2 c2 := by
  subst hx
  subst hq
  obtain ⟨ad', A2, c2, h0, h1, h2, h3, h4, h5⟩ := at_T27 h (i : Int) (by omega) (by omega)
  injection h0 with h0
  subst h0
  exact ⟨A2, c2, h1, h2, h3, h4, h5⟩
theorem add_lit (ad : Addr) (m : Nat) (h : 0 < m) : ad.add m = ⟨ad.block, ad.off + m, none⟩ := by
  have h_ := add_field ad 0 m h
  rw [Nat.zero_add] at h_
  rw [h_, Addr.add_zero']
theorem neg_none {d : Nat} (ih : ValAt d) (n : Int) (l : List E) (ad : Addr) (c : Nat) (ky vl tm ac : Int) (w : World) (hC : Kd.C k27 w (some ad) l.length l) (hl : 0 < l.length) (x0 : E) (hx0 : l.getD 0 z27 = x0) (hf0 : fits d x0) (hv0 : valOf d ky vl tm ac x0 = none) :
    Calls Try.prog 27 #[.agg #[.int .i64 ky, .int .i64 vl, .int .i64 tm, .int .i64 ac], .agg #[.int .i64 14, .int .i64 n, .slice (some ad) l.length c]] w fun e_ w2 => e_ = ends (none) ∧ Below w.heap.size w w2 := by
  have HV0 := Aside0.mk hv0
  clear hv0
  go_enter Try.func27, Try.ntmps27
  go_upto_region 13 with fail
  have HT : Aside0 (Two w ((w.alloc (.cells #[.int .i64 ky, .int .i64 vl, .int .i64 tm, .int .i64 ac] 56)).alloc (.cells #[.int .i64 14, .int .i64 n, .slice (some ad) l.length c] 27)) w.heap.size (w.heap.size + 1) ky vl tm ac 14 n (some ad) l.length c l) :=
    ⟨⟨blk_alloc (blk_new w _) _, by have := blk_new (w.alloc (.cells #[.int .i64 ky, .int .i64 vl, .int .i64 tm, .int .i64 ac] 56)) (.cells #[.int .i64 14, .int .i64 n, .slice (some ad) l.length c] 27); simpa using this, below_alloc (below_alloc (Below.refl _ _) _) _, Kd.C_alloc (Kd.C_alloc hC _) _⟩⟩
  generalize hw0 : (w.alloc (.cells #[.int .i64 ky, .int .i64 vl, .int .i64 tm, .int .i64 ac] 56)).alloc (.cells #[.int .i64 14, .int .i64 n, .slice (some ad) l.length c] 27) = w1 at HT ⊢
  clear hw0 hC
  have hi0 : (0 < l.length) = True := eq_true (by omega)
  have hI0 : ((0 : Int) < (l.length : Int)) = True := eq_true (by omega)
  obtain ⟨B0, d0, hk_⟩ := kid_cell HT.out.rd 0 (by omega) (q := ad) (by exact Addr.add_zero' _) x0 hx0
  have HK0 := Aside0.mk hk_
  clear hk_
  refine start_ (n := 8) (S := fun w' => Below w1.heap.size w1 w') (ds := [5]) #[false, false, false, false, false, false, false, false] (by kernel_rfl) rfl rfl (below_drew (Below.refl _ _)) (fun hHeld => ?_)
  refine pure_ (i := 1) (N := some 35) (v := ?_) (a' := ?_) #[false, true, false, false, false, false, false, false] rfl rfl (by kernel_rfl) (fun _ _ _ h => h) (Or.inl ⟨by rfl, ?_⟩) ?_ ?_
  rotate_left
  · intro w'
    go_simp
    with_reducible rfl
  rotate_left
  · simp only [Act.put, List.setIfInBounds_toArray, List.set_cons_zero, List.set_cons_succ, i64_w, i32_w]
    rfl
  refine take_ (i := 0) (N := some 34) (v := ?_) (a' := ?_) #[true, true, false, false, false, false, false, false] rfl rfl (by kernel_rfl) (fun _ _ _ h => h) (Or.inl ⟨by rfl, ?_⟩) hHeld ?_ ?_
  rotate_left
  · intro w' hS
    obtain ⟨c0_, c1_, c2_, c3_⟩ := (HT.out.step hS).w0
    go_simp
    with_reducible rfl
  rotate_left
  · simp only [Act.put, List.setIfInBounds_toArray, List.set_cons_zero, List.set_cons_succ, i64_w, i32_w]
    rfl
  refine take_ (i := 2) (N := some 36) (v := ?_) (a' := ?_) #[true, true, true, false, false, false, false, false] rfl rfl (by kernel_rfl) (fun _ _ _ h => h) (Or.inl ⟨by rfl, ?_⟩) hHeld ?_ ?_
  rotate_left
  · intro w' hS
    obtain ⟨c0_, c1_, c2_⟩ := (HT.out.step hS).e0
    go_simp
    with_reducible rfl
  rotate_left
  · simp only [Act.put, List.setIfInBounds_toArray, List.set_cons_zero, List.set_cons_succ, i64_w, i32_w]
    rfl
  refine pure_ (i := 3) (N := some 37) (v := ?_) (a' := ?_) #[true, true, true, true, false, false, false, false] rfl rfl (by kernel_rfl) (fun _ _ _ h => h) (Or.inl ⟨by rfl, ?_⟩) ?_ ?_
  rotate_left
  · intro w'
    go_simp
    with_reducible rfl
  rotate_left
  · simp only [Act.put, List.setIfInBounds_toArray, List.set_cons_zero, List.set_cons_succ, i64_w, i32_w]
    rfl
  refine take_ (i := 4) (N := some 38) (v := ?_) (a' := ?_) #[true, true, true, true, true, false, false, false] rfl rfl (by kernel_rfl) (fun _ _ _ h => h) (Or.inl ⟨by rfl, ?_⟩) hHeld ?_ ?_
  rotate_left
  · intro w' hS
    have c0_ := (HK0.out.step hS).k0
    have c1_ := (HK0.out.step hS).k1
    have c2_ := (HK0.out.step hS).k2
    go_simp
    with_reducible rfl
  rotate_left
  · simp only [Act.put, List.setIfInBounds_toArray, List.set_cons_zero, List.set_cons_succ, i64_w, i32_w]
    rfl
  refine last_ (i := 5) (N := some 39) #[true, true, true, true, true, true, false, false] rfl rfl (by kernel_rfl) (by simp) (fun K hK => ?_)
  refine goesP_ Try.func27 (by kernel_rfl) rfl #[.agg #[.int .i64 ky, .int .i64 vl, .int .i64 tm, .int .i64 ac], .agg #[.int .i64 x0.f0, .int .i64 x0.f1, .slice B0 x0.f2.length d0]] (by rfl) rfl rfl (by (try simp only [List.map_toArray, List.map_cons, List.map_nil]); first | done | rfl) ?_
  refine (ih x0 B0 d0 ky vl tm ac _ _ hf0 (Kd.C_below HK0.out.kr hHeld) HK0.out.kl HV0.out).mono ?_
  rintro e_ w2 ⟨rfl, hb_⟩
  replace hb_ := below_step hHeld hb_
  exact Or.inr ⟨_, rfl, rfl, rfl, (HT.out.step hb_).bl⟩

theorem neg_some {d : Nat} (ih : ValAt d) (n : Int) (l : List E) (ad : Addr) (c : Nat) (ky vl tm ac : Int) (w : World) (hC : Kd.C k27 w (some ad) l.length l) (hl : 0 < l.length) (x0 : E) (hx0 : l.getD 0 z27 = x0) (hf0 : fits d x0) (a : Int) (hv0 : valOf d ky vl tm ac x0 = some a) :
    Calls Try.prog 27 #[.agg #[.int .i64 ky, .int .i64 vl, .int .i64 tm, .int .i64 ac], .agg #[.int .i64 14, .int .i64 n, .slice (some ad) l.length c]] w fun e_ w2 => e_ = ends (some (wrap64 (-a))) ∧ Below w.heap.size w w2 := by
  have HV0 := Aside0.mk hv0
  clear hv0
  go_enter Try.func27, Try.ntmps27
  go_upto_region 13 with fail
  have HT : Aside0 (Two w ((w.alloc (.cells #[.int .i64 ky, .int .i64 vl, .int .i64 tm, .int .i64 ac] 56)).alloc (.cells #[.int .i64 14, .int .i64 n, .slice (some ad) l.length c] 27)) w.heap.size (w.heap.size + 1) ky vl tm ac 14 n (some ad) l.length c l) :=
    ⟨⟨blk_alloc (blk_new w _) _, by have := blk_new (w.alloc (.cells #[.int .i64 ky, .int .i64 vl, .int .i64 tm, .int .i64 ac] 56)) (.cells #[.int .i64 14, .int .i64 n, .slice (some ad) l.length c] 27); simpa using this, below_alloc (below_alloc (Below.refl _ _) _) _, Kd.C_alloc (Kd.C_alloc hC _) _⟩⟩
  generalize hw0 : (w.alloc (.cells #[.int .i64 ky, .int .i64 vl, .int .i64 tm, .int .i64 ac] 56)).alloc (.cells #[.int .i64 14, .int .i64 n, .slice (some ad) l.length c] 27) = w1 at HT ⊢
  clear hw0 hC
  have hi0 : (0 < l.length) = True := eq_true (by omega)
  have hI0 : ((0 : Int) < (l.length : Int)) = True := eq_true (by omega)
  obtain ⟨B0, d0, hk_⟩ := kid_cell HT.out.rd 0 (by omega) (q := ad) (by exact Addr.add_zero' _) x0 hx0
  have HK0 := Aside0.mk hk_
  clear hk_
  refine start_ (n := 8) (S := fun w' => Below w1.heap.size w1 w') (ds := [5]) #[false, false, false, false, false, false, false, false] (by kernel_rfl) rfl rfl (below_drew (Below.refl _ _)) (fun hHeld => ?_)
  refine pure_ (i := 1) (N := some 35) (v := ?_) (a' := ?_) #[false, true, false, false, false, false, false, false] rfl rfl (by kernel_rfl) (fun _ _ _ h => h) (Or.inl ⟨by rfl, ?_⟩) ?_ ?_
  rotate_left
  · intro w'
    go_simp
    with_reducible rfl
  rotate_left
  · simp only [Act.put, List.setIfInBounds_toArray, List.set_cons_zero, List.set_cons_succ, i64_w, i32_w]
    rfl
  refine take_ (i := 0) (N := some 34) (v := ?_) (a' := ?_) #[true, true, false, false, false, false, false, false] rfl rfl (by kernel_rfl) (fun _ _ _ h => h) (Or.inl ⟨by rfl, ?_⟩) hHeld ?_ ?_
  rotate_left
  · intro w' hS
    obtain ⟨c0_, c1_, c2_, c3_⟩ := (HT.out.step hS).w0
    go_simp
    with_reducible rfl
  rotate_left
  · simp only [Act.put, List.setIfInBounds_toArray, List.set_cons_zero, List.set_cons_succ, i64_w, i32_w]
    rfl
  refine take_ (i := 2) (N := some 36) (v := ?_) (a' := ?_) #[true, true, true, false, false, false, false, false] rfl rfl (by kernel_rfl) (fun _ _ _ h => h) (Or.inl ⟨by rfl, ?_⟩) hHeld ?_ ?_
  rotate_left
  · intro w' hS
    obtain ⟨c0_, c1_, c2_⟩ := (HT.out.step hS).e0
    go_simp
    with_reducible rfl
  rotate_left
  · simp only [Act.put, List.setIfInBounds_toArray, List.set_cons_zero, List.set_cons_succ, i64_w, i32_w]
    rfl
  refine pure_ (i := 3) (N := some 37) (v := ?_) (a' := ?_) #[true, true, true, true, false, false, false, false] rfl rfl (by kernel_rfl) (fun _ _ _ h => h) (Or.inl ⟨by rfl, ?_⟩) ?_ ?_
  rotate_left
  · intro w'
    go_simp
    with_reducible rfl
  rotate_left
  · simp only [Act.put, List.setIfInBounds_toArray, List.set_cons_zero, List.set_cons_succ, i64_w, i32_w]
    rfl
  refine take_ (i := 4) (N := some 38) (v := ?_) (a' := ?_) #[true, true, true, true, true, false, false, false] rfl rfl (by kernel_rfl) (fun _ _ _ h => h) (Or.inl ⟨by rfl, ?_⟩) hHeld ?_ ?_
  rotate_left
  · intro w' hS
    have c0_ := (HK0.out.step hS).k0
    have c1_ := (HK0.out.step hS).k1
    have c2_ := (HK0.out.step hS).k2
    go_simp
    with_reducible rfl
  rotate_left
  · simp only [Act.put, List.setIfInBounds_toArray, List.set_cons_zero, List.set_cons_succ, i64_w, i32_w]
    rfl
  refine last_ (i := 5) (N := some 39) #[true, true, true, true, true, true, false, false] rfl rfl (by kernel_rfl) (by simp) (fun K hK => ?_)
  refine goesP_ Try.func27 (by kernel_rfl) rfl #[.agg #[.int .i64 ky, .int .i64 vl, .int .i64 tm, .int .i64 ac], .agg #[.int .i64 x0.f0, .int .i64 x0.f1, .slice B0 x0.f2.length d0]] (by rfl) rfl rfl (by (try simp only [List.map_toArray, List.map_cons, List.map_nil]); first | done | rfl) ?_
  refine (ih x0 B0 d0 ky vl tm ac _ _ hf0 (Kd.C_below HK0.out.kr hHeld) HK0.out.kl HV0.out).mono ?_
  rintro e_ w2 ⟨rfl, hb_⟩
  replace hb_ := below_step hHeld hb_
  refine Or.inl ⟨_, rfl, ?_⟩
  replace HT := Aside0.mk (HT.out.step hb_)
  refine hK.out _ _ ?_
  clear hK K
  refine norm_ (a' := ?_) ?_ ?_
  rotate_left
  · show Act.put _ (some 39) _ = _
    simp only [Act.put, List.setIfInBounds_toArray, List.set_cons_zero, List.set_cons_succ, i64_w, i32_w]
    rfl
  refine pure_ (i := 6) (N := some 40) (v := ?_) (a' := ?_) #[true, true, true, true, true, true, true, false] rfl rfl (by kernel_rfl) (fun _ _ _ h => h) (Or.inl ⟨by rfl, ?_⟩) ?_ ?_
  rotate_left
  · intro w'
    go_simp
    with_reducible rfl
  rotate_left
  · simp only [Act.put, List.setIfInBounds_toArray, List.set_cons_zero, List.set_cons_succ, i64_w, i32_w]
    rfl
  refine pure_ (i := 7) (N := some 4) (v := ?_) (a' := ?_) #[true, true, true, true, true, true, true, true] rfl rfl (by kernel_rfl) (fun _ _ _ h => h) (Or.inl ⟨by rfl, ?_⟩) ?_ ?_
  rotate_left
  · intro w'
    go_simp
    with_reducible rfl
  rotate_left
  · simp only [Act.put, List.setIfInBounds_toArray, List.set_cons_zero, List.set_cons_succ, i64_w, i32_w]
    rfl
  refine done_ (by kernel_rfl) ?_

  go_wp2
  go_ret
  exact ⟨rfl, HT.out.bl⟩
theorem if_none {d : Nat} (ih : ValAt d) (n : Int) (l : List E) (ad : Addr) (c : Nat) (ky vl tm ac : Int) (w : World) (hC : Kd.C k27 w (some ad) l.length l) (hl : 0 < l.length) (x0 : E) (hx0 : l.getD 0 z27 = x0) (hf0 : fits d x0) (hv0 : valOf d ky vl tm ac x0 = none) :
    Calls Try.prog 27 #[.agg #[.int .i64 ky, .int .i64 vl, .int .i64 tm, .int .i64 ac], .agg #[.int .i64 13, .int .i64 n, .slice (some ad) l.length c]] w fun e_ w2 => e_ = ends (none) ∧ Below w.heap.size w w2 := by
  have HV0 := Aside0.mk hv0
  clear hv0
  go_enter Try.func27, Try.ntmps27
  go_upto_region 15 with fail
  have HT : Aside0 (Two w ((w.alloc (.cells #[.int .i64 ky, .int .i64 vl, .int .i64 tm, .int .i64 ac] 56)).alloc (.cells #[.int .i64 13, .int .i64 n, .slice (some ad) l.length c] 27)) w.heap.size (w.heap.size + 1) ky vl tm ac 13 n (some ad) l.length c l) :=
    ⟨⟨blk_alloc (blk_new w _) _, by have := blk_new (w.alloc (.cells #[.int .i64 ky, .int .i64 vl, .int .i64 tm, .int .i64 ac] 56)) (.cells #[.int .i64 13, .int .i64 n, .slice (some ad) l.length c] 27); simpa using this, below_alloc (below_alloc (Below.refl _ _) _) _, Kd.C_alloc (Kd.C_alloc hC _) _⟩⟩
  generalize hw0 : (w.alloc (.cells #[.int .i64 ky, .int .i64 vl, .int .i64 tm, .int .i64 ac] 56)).alloc (.cells #[.int .i64 13, .int .i64 n, .slice (some ad) l.length c] 27) = w1 at HT ⊢
  clear hw0 hC
  have hi0 : (0 < l.length) = True := eq_true (by omega)
  have hI0 : ((0 : Int) < (l.length : Int)) = True := eq_true (by omega)
  obtain ⟨B0, d0, hk_⟩ := kid_cell HT.out.rd 0 (by omega) (q := ad) (by exact Addr.add_zero' _) x0 hx0
  have HK0 := Aside0.mk hk_
  clear hk_
  refine start_ (n := 7) (S := fun w' => Below w1.heap.size w1 w') (ds := [5]) #[false, false, false, false, false, false, false] (by kernel_rfl) rfl rfl (below_drew (Below.refl _ _)) (fun hHeld => ?_)
  refine pure_ (i := 1) (N := some 44) (v := ?_) (a' := ?_) #[false, true, false, false, false, false, false] rfl rfl (by kernel_rfl) (fun _ _ _ h => h) (Or.inl ⟨by rfl, ?_⟩) ?_ ?_
  rotate_left
  · intro w'
    go_simp
    with_reducible rfl
  rotate_left
  · simp only [Act.put, List.setIfInBounds_toArray, List.set_cons_zero, List.set_cons_succ, i64_w, i32_w]
    rfl
  refine take_ (i := 0) (N := some 43) (v := ?_) (a' := ?_) #[true, true, false, false, false, false, false] rfl rfl (by kernel_rfl) (fun _ _ _ h => h) (Or.inl ⟨by rfl, ?_⟩) hHeld ?_ ?_
  rotate_left
  · intro w' hS
    obtain ⟨c0_, c1_, c2_, c3_⟩ := (HT.out.step hS).w0
    go_simp
    with_reducible rfl
  rotate_left
  · simp only [Act.put, List.setIfInBounds_toArray, List.set_cons_zero, List.set_cons_succ, i64_w, i32_w]
    rfl
  refine take_ (i := 2) (N := some 45) (v := ?_) (a' := ?_) #[true, true, true, false, false, false, false] rfl rfl (by kernel_rfl) (fun _ _ _ h => h) (Or.inl ⟨by rfl, ?_⟩) hHeld ?_ ?_
  rotate_left
  · intro w' hS
    obtain ⟨c0_, c1_, c2_⟩ := (HT.out.step hS).e0
    go_simp
    with_reducible rfl
  rotate_left
  · simp only [Act.put, List.setIfInBounds_toArray, List.set_cons_zero, List.set_cons_succ, i64_w, i32_w]
    rfl
  refine pure_ (i := 3) (N := some 46) (v := ?_) (a' := ?_) #[true, true, true, true, false, false, false] rfl rfl (by kernel_rfl) (fun _ _ _ h => h) (Or.inl ⟨by rfl, ?_⟩) ?_ ?_
  rotate_left
  · intro w'
    go_simp
    with_reducible rfl
  rotate_left
  · simp only [Act.put, List.setIfInBounds_toArray, List.set_cons_zero, List.set_cons_succ, i64_w, i32_w]
    rfl
  refine take_ (i := 4) (N := some 47) (v := ?_) (a' := ?_) #[true, true, true, true, true, false, false] rfl rfl (by kernel_rfl) (fun _ _ _ h => h) (Or.inl ⟨by rfl, ?_⟩) hHeld ?_ ?_
  rotate_left
  · intro w' hS
    have c0_ := (HK0.out.step hS).k0
    have c1_ := (HK0.out.step hS).k1
    have c2_ := (HK0.out.step hS).k2
    go_simp
    with_reducible rfl
  rotate_left
  · simp only [Act.put, List.setIfInBounds_toArray, List.set_cons_zero, List.set_cons_succ, i64_w, i32_w]
    rfl
  refine last_ (i := 5) (N := some 48) #[true, true, true, true, true, true, false] rfl rfl (by kernel_rfl) (by simp) (fun K hK => ?_)
  refine goesP_ Try.func27 (by kernel_rfl) rfl #[.agg #[.int .i64 ky, .int .i64 vl, .int .i64 tm, .int .i64 ac], .agg #[.int .i64 x0.f0, .int .i64 x0.f1, .slice B0 x0.f2.length d0]] (by rfl) rfl rfl (by (try simp only [List.map_toArray, List.map_cons, List.map_nil]); first | done | rfl) ?_
  refine (ih x0 B0 d0 ky vl tm ac _ _ hf0 (Kd.C_below HK0.out.kr hHeld) HK0.out.kl HV0.out).mono ?_
  rintro e_ w2 ⟨rfl, hb_⟩
  replace hb_ := below_step hHeld hb_
  exact Or.inr ⟨_, rfl, rfl, rfl, (HT.out.step hb_).bl⟩

theorem if_then {d : Nat} (ih : ValAt d) (n : Int) (l : List E) (ad : Addr) (c : Nat) (ky vl tm ac : Int) (w : World) (hC : Kd.C k27 w (some ad) l.length l) (hl : 1 < l.length) (x0 : E) (hx0 : l.getD 0 z27 = x0) (hf0 : fits d x0) (x1 : E) (hx1 : l.getD 1 z27 = x1) (hf1 : fits d x1) (q : Int) (hq : (q != 0) = true) (hv0 : valOf d ky vl tm ac x0 = some q) (r : Int) (hv1 : valOf d ky vl tm ac x1 = some r) :
    Calls Try.prog 27 #[.agg #[.int .i64 ky, .int .i64 vl, .int .i64 tm, .int .i64 ac], .agg #[.int .i64 13, .int .i64 n, .slice (some ad) l.length c]] w fun e_ w2 => e_ = ends (some r) ∧ Below w.heap.size w w2 := by
  have HV0 := Aside0.mk hv0
  clear hv0
  have HV1 := Aside0.mk hv1
  clear hv1
  go_enter Try.func27, Try.ntmps27
  go_upto_region 15 with fail
  have HT : Aside0 (Two w ((w.alloc (.cells #[.int .i64 ky, .int .i64 vl, .int .i64 tm, .int .i64 ac] 56)).alloc (.cells #[.int .i64 13, .int .i64 n, .slice (some ad) l.length c] 27)) w.heap.size (w.heap.size + 1) ky vl tm ac 13 n (some ad) l.length c l) :=
    ⟨⟨blk_alloc (blk_new w _) _, by have := blk_new (w.alloc (.cells #[.int .i64 ky, .int .i64 vl, .int .i64 tm, .int .i64 ac] 56)) (.cells #[.int .i64 13, .int .i64 n, .slice (some ad) l.length c] 27); simpa using this, below_alloc (below_alloc (Below.refl _ _) _) _, Kd.C_alloc (Kd.C_alloc hC _) _⟩⟩
  generalize hw0 : (w.alloc (.cells #[.int .i64 ky, .int .i64 vl, .int .i64 tm, .int .i64 ac] 56)).alloc (.cells #[.int .i64 13, .int .i64 n, .slice (some ad) l.length c] 27) = w1 at HT ⊢
  clear hw0 hC
  have hi0 : (0 < l.length) = True := eq_true (by omega)
  have hI0 : ((0 : Int) < (l.length : Int)) = True := eq_true (by omega)
  obtain ⟨B0, d0, hk_⟩ := kid_cell HT.out.rd 0 (by omega) (q := ad) (by exact Addr.add_zero' _) x0 hx0
  have HK0 := Aside0.mk hk_
  clear hk_
  have hi1 : (1 < l.length) = True := eq_true (by omega)
  have hI1 : ((1 : Int) < (l.length : Int)) = True := eq_true (by omega)
  obtain ⟨B1, d1, hk_⟩ := kid_cell HT.out.rd 1 (by omega) (q := ⟨ad.block, ad.off + 3, none⟩) (by exact add_lit ad 3 (by omega)) x1 hx1
  have HK1 := Aside0.mk hk_
  clear hk_
  refine start_ (n := 7) (S := fun w' => Below w1.heap.size w1 w') (ds := [5]) #[false, false, false, false, false, false, false] (by kernel_rfl) rfl rfl (below_drew (Below.refl _ _)) (fun hHeld => ?_)
  refine pure_ (i := 1) (N := some 44) (v := ?_) (a' := ?_) #[false, true, false, false, false, false, false] rfl rfl (by kernel_rfl) (fun _ _ _ h => h) (Or.inl ⟨by rfl, ?_⟩) ?_ ?_
  rotate_left
  · intro w'
    go_simp
    with_reducible rfl
  rotate_left
  · simp only [Act.put, List.setIfInBounds_toArray, List.set_cons_zero, List.set_cons_succ, i64_w, i32_w]
    rfl
  refine take_ (i := 0) (N := some 43) (v := ?_) (a' := ?_) #[true, true, false, false, false, false, false] rfl rfl (by kernel_rfl) (fun _ _ _ h => h) (Or.inl ⟨by rfl, ?_⟩) hHeld ?_ ?_
  rotate_left
  · intro w' hS
    obtain ⟨c0_, c1_, c2_, c3_⟩ := (HT.out.step hS).w0
    go_simp
    with_reducible rfl
  rotate_left
  · simp only [Act.put, List.setIfInBounds_toArray, List.set_cons_zero, List.set_cons_succ, i64_w, i32_w]
    rfl
  refine take_ (i := 2) (N := some 45) (v := ?_) (a' := ?_) #[true, true, true, false, false, false, false] rfl rfl (by kernel_rfl) (fun _ _ _ h => h) (Or.inl ⟨by rfl, ?_⟩) hHeld ?_ ?_
  rotate_left
  · intro w' hS
    obtain ⟨c0_, c1_, c2_⟩ := (HT.out.step hS).e0
    go_simp
    with_reducible rfl
  rotate_left
  · simp only [Act.put, List.setIfInBounds_toArray, List.set_cons_zero, List.set_cons_succ, i64_w, i32_w]
    rfl
  refine pure_ (i := 3) (N := some 46) (v := ?_) (a' := ?_) #[true, true, true, true, false, false, false] rfl rfl (by kernel_rfl) (fun _ _ _ h => h) (Or.inl ⟨by rfl, ?_⟩) ?_ ?_
  rotate_left
  · intro w'
    go_simp
    with_reducible rfl
  rotate_left
  · simp only [Act.put, List.setIfInBounds_toArray, List.set_cons_zero, List.set_cons_succ, i64_w, i32_w]
    rfl
  refine take_ (i := 4) (N := some 47) (v := ?_) (a' := ?_) #[true, true, true, true, true, false, false] rfl rfl (by kernel_rfl) (fun _ _ _ h => h) (Or.inl ⟨by rfl, ?_⟩) hHeld ?_ ?_
  rotate_left
  · intro w' hS
    have c0_ := (HK0.out.step hS).k0
    have c1_ := (HK0.out.step hS).k1
    have c2_ := (HK0.out.step hS).k2
    go_simp
    with_reducible rfl
  rotate_left
  · simp only [Act.put, List.setIfInBounds_toArray, List.set_cons_zero, List.set_cons_succ, i64_w, i32_w]
    rfl
  refine last_ (i := 5) (N := some 48) #[true, true, true, true, true, true, false] rfl rfl (by kernel_rfl) (by simp) (fun K hK => ?_)
  refine goesP_ Try.func27 (by kernel_rfl) rfl #[.agg #[.int .i64 ky, .int .i64 vl, .int .i64 tm, .int .i64 ac], .agg #[.int .i64 x0.f0, .int .i64 x0.f1, .slice B0 x0.f2.length d0]] (by rfl) rfl rfl (by (try simp only [List.map_toArray, List.map_cons, List.map_nil]); first | done | rfl) ?_
  refine (ih x0 B0 d0 ky vl tm ac _ _ hf0 (Kd.C_below HK0.out.kr hHeld) HK0.out.kl HV0.out).mono ?_
  rintro e_ w3 ⟨rfl, hb_⟩
  replace hb_ := below_step hHeld hb_
  refine Or.inl ⟨_, rfl, ?_⟩
  replace HT := Aside0.mk (HT.out.step hb_)
  replace HK1 := Aside0.mk (HK1.out.step hb_)
  refine hK.out _ _ ?_
  clear hK K
  refine norm_ (a' := ?_) ?_ ?_
  rotate_left
  · show Act.put _ (some 48) _ = _
    simp only [Act.put, List.setIfInBounds_toArray, List.set_cons_zero, List.set_cons_succ, i64_w, i32_w]
    rfl
  refine pure_ (i := 6) (N := some 49) (v := ?_) (a' := ?_) #[true, true, true, true, true, true, true] rfl rfl (by kernel_rfl) (fun _ _ _ h => h) (Or.inl ⟨by rfl, ?_⟩) ?_ ?_
  rotate_left
  · intro w'
    go_simp
    with_reducible rfl
  rotate_left
  · simp only [Act.put, List.setIfInBounds_toArray, List.set_cons_zero, List.set_cons_succ, i64_w, i32_w]
    rfl
  refine done_ (by kernel_rfl) ?_
  go_upto_region 16 with fail
  refine start_ (n := 7) (S := fun w' => Below w3.heap.size w3 w') (ds := [5]) #[false, false, false, false, false, false, false] (by kernel_rfl) rfl rfl (below_drew (Below.refl _ _)) (fun hHeld => ?_)
  refine pure_ (i := 1) (N := some 51) (v := ?_) (a' := ?_) #[false, true, false, false, false, false, false] rfl rfl (by kernel_rfl) (fun _ _ _ h => h) (Or.inl ⟨by rfl, ?_⟩) ?_ ?_
  rotate_left
  · intro w'
    go_simp
    with_reducible rfl
  rotate_left
  · simp only [Act.put, List.setIfInBounds_toArray, List.set_cons_zero, List.set_cons_succ, i64_w, i32_w]
    rfl
  refine take_ (i := 0) (N := some 50) (v := ?_) (a' := ?_) #[true, true, false, false, false, false, false] rfl rfl (by kernel_rfl) (fun _ _ _ h => h) (Or.inl ⟨by rfl, ?_⟩) hHeld ?_ ?_
  rotate_left
  · intro w' hS
    obtain ⟨c0_, c1_, c2_, c3_⟩ := (HT.out.step hS).w0
    go_simp
    with_reducible rfl
  rotate_left
  · simp only [Act.put, List.setIfInBounds_toArray, List.set_cons_zero, List.set_cons_succ, i64_w, i32_w]
    rfl
  refine take_ (i := 2) (N := some 52) (v := ?_) (a' := ?_) #[true, true, true, false, false, false, false] rfl rfl (by kernel_rfl) (fun _ _ _ h => h) (Or.inl ⟨by rfl, ?_⟩) hHeld ?_ ?_
  rotate_left
  · intro w' hS
    obtain ⟨c0_, c1_, c2_⟩ := (HT.out.step hS).e0
    go_simp
    with_reducible rfl
  rotate_left
  · simp only [Act.put, List.setIfInBounds_toArray, List.set_cons_zero, List.set_cons_succ, i64_w, i32_w]
    rfl
  refine pure_ (i := 3) (N := some 53) (v := ?_) (a' := ?_) #[true, true, true, true, false, false, false] rfl rfl (by kernel_rfl) (fun _ _ _ h => h) (Or.inl ⟨by rfl, ?_⟩) ?_ ?_
  rotate_left
  · intro w'
    go_simp
    with_reducible rfl
  rotate_left
  · simp only [Act.put, List.setIfInBounds_toArray, List.set_cons_zero, List.set_cons_succ, i64_w, i32_w]
    rfl
  refine take_ (i := 4) (N := some 54) (v := ?_) (a' := ?_) #[true, true, true, true, true, false, false] rfl rfl (by kernel_rfl) (fun _ _ _ h => h) (Or.inl ⟨by rfl, ?_⟩) hHeld ?_ ?_
  rotate_left
  · intro w' hS
    have c0_ := (HK1.out.step hS).k0
    have c1_ := (HK1.out.step hS).k1
    have c2_ := (HK1.out.step hS).k2
    go_simp
    with_reducible rfl
  rotate_left
  · simp only [Act.put, List.setIfInBounds_toArray, List.set_cons_zero, List.set_cons_succ, i64_w, i32_w]
    rfl
  refine last_ (i := 5) (N := some 55) #[true, true, true, true, true, true, false] rfl rfl (by kernel_rfl) (by simp) (fun K hK => ?_)
  refine goesP_ Try.func27 (by kernel_rfl) rfl #[.agg #[.int .i64 ky, .int .i64 vl, .int .i64 tm, .int .i64 ac], .agg #[.int .i64 x1.f0, .int .i64 x1.f1, .slice B1 x1.f2.length d1]] (by rfl) rfl rfl (by (try simp only [List.map_toArray, List.map_cons, List.map_nil]); first | done | rfl) ?_
  refine (ih x1 B1 d1 ky vl tm ac _ _ hf1 (Kd.C_below HK1.out.kr hHeld) HK1.out.kl HV1.out).mono ?_
  rintro e_ w2 ⟨rfl, hb_⟩
  replace hb_ := below_step hHeld hb_
  refine Or.inl ⟨_, rfl, ?_⟩
  replace HT := Aside0.mk (HT.out.step hb_)
  refine hK.out _ _ ?_
  clear hK K
  refine norm_ (a' := ?_) ?_ ?_
  rotate_left
  · show Act.put _ (some 55) _ = _
    simp only [Act.put, List.setIfInBounds_toArray, List.set_cons_zero, List.set_cons_succ, i64_w, i32_w]
    rfl
  refine pure_ (i := 6) (N := some 4) (v := ?_) (a' := ?_) #[true, true, true, true, true, true, true] rfl rfl (by kernel_rfl) (fun _ _ _ h => h) (Or.inl ⟨by rfl, ?_⟩) ?_ ?_
  rotate_left
  · intro w'
    go_simp
    with_reducible rfl
  rotate_left
  · simp only [Act.put, List.setIfInBounds_toArray, List.set_cons_zero, List.set_cons_succ, i64_w, i32_w]
    rfl
  refine done_ (by kernel_rfl) ?_
  go_wp2
  go_ret
  exact ⟨rfl, HT.out.bl⟩

theorem if_then_none {d : Nat} (ih : ValAt d) (n : Int) (l : List E) (ad : Addr) (c : Nat) (ky vl tm ac : Int) (w : World) (hC : Kd.C k27 w (some ad) l.length l) (hl : 1 < l.length) (x0 : E) (hx0 : l.getD 0 z27 = x0) (hf0 : fits d x0) (x1 : E) (hx1 : l.getD 1 z27 = x1) (hf1 : fits d x1) (q : Int) (hq : (q != 0) = true) (hv0 : valOf d ky vl tm ac x0 = some q) (hv1 : valOf d ky vl tm ac x1 = none) :
    Calls Try.prog 27 #[.agg #[.int .i64 ky, .int .i64 vl, .int .i64 tm, .int .i64 ac], .agg #[.int .i64 13, .int .i64 n, .slice (some ad) l.length c]] w fun e_ w2 => e_ = ends (none) ∧ Below w.heap.size w w2 := by
  have HV0 := Aside0.mk hv0
  clear hv0
  have HV1 := Aside0.mk hv1
  clear hv1
  go_enter Try.func27, Try.ntmps27
  go_upto_region 15 with fail
  have HT : Aside0 (Two w ((w.alloc (.cells #[.int .i64 ky, .int .i64 vl, .int .i64 tm, .int .i64 ac] 56)).alloc (.cells #[.int .i64 13, .int .i64 n, .slice (some ad) l.length c] 27)) w.heap.size (w.heap.size + 1) ky vl tm ac 13 n (some ad) l.length c l) :=
    ⟨⟨blk_alloc (blk_new w _) _, by have := blk_new (w.alloc (.cells #[.int .i64 ky, .int .i64 vl, .int .i64 tm, .int .i64 ac] 56)) (.cells #[.int .i64 13, .int .i64 n, .slice (some ad) l.length c] 27); simpa using this, below_alloc (below_alloc (Below.refl _ _) _) _, Kd.C_alloc (Kd.C_alloc hC _) _⟩⟩
  generalize hw0 : (w.alloc (.cells #[.int .i64 ky, .int .i64 vl, .int .i64 tm, .int .i64 ac] 56)).alloc (.cells #[.int .i64 13, .int .i64 n, .slice (some ad) l.length c] 27) = w1 at HT ⊢
  clear hw0 hC
  have hi0 : (0 < l.length) = True := eq_true (by omega)
  have hI0 : ((0 : Int) < (l.length : Int)) = True := eq_true (by omega)
  obtain ⟨B0, d0, hk_⟩ := kid_cell HT.out.rd 0 (by omega) (q := ad) (by exact Addr.add_zero' _) x0 hx0
  have HK0 := Aside0.mk hk_
  clear hk_
  have hi1 : (1 < l.length) = True := eq_true (by omega)
  have hI1 : ((1 : Int) < (l.length : Int)) = True := eq_true (by omega)
  obtain ⟨B1, d1, hk_⟩ := kid_cell HT.out.rd 1 (by omega) (q := ⟨ad.block, ad.off + 3, none⟩) (by exact add_lit ad 3 (by omega)) x1 hx1
  have HK1 := Aside0.mk hk_
  clear hk_
  refine start_ (n := 7) (S := fun w' => Below w1.heap.size w1 w') (ds := [5]) #[false, false, false, false, false, false, false] (by kernel_rfl) rfl rfl (below_drew (Below.refl _ _)) (fun hHeld => ?_)
  refine pure_ (i := 1) (N := some 44) (v := ?_) (a' := ?_) #[false, true, false, false, false, false, false] rfl rfl (by kernel_rfl) (fun _ _ _ h => h) (Or.inl ⟨by rfl, ?_⟩) ?_ ?_
  rotate_left
  · intro w'
    go_simp
    with_reducible rfl
  rotate_left
  · simp only [Act.put, List.setIfInBounds_toArray, List.set_cons_zero, List.set_cons_succ, i64_w, i32_w]
    rfl
  refine take_ (i := 0) (N := some 43) (v := ?_) (a' := ?_) #[true, true, false, false, false, false, false] rfl rfl (by kernel_rfl) (fun _ _ _ h => h) (Or.inl ⟨by rfl, ?_⟩) hHeld ?_ ?_
  rotate_left
  · intro w' hS
    obtain ⟨c0_, c1_, c2_, c3_⟩ := (HT.out.step hS).w0
    go_simp
    with_reducible rfl
  rotate_left
  · simp only [Act.put, List.setIfInBounds_toArray, List.set_cons_zero, List.set_cons_succ, i64_w, i32_w]
    rfl
  refine take_ (i := 2) (N := some 45) (v := ?_) (a' := ?_) #[true, true, true, false, false, false, false] rfl rfl (by kernel_rfl) (fun _ _ _ h => h) (Or.inl ⟨by rfl, ?_⟩) hHeld ?_ ?_
  rotate_left
  · intro w' hS
    obtain ⟨c0_, c1_, c2_⟩ := (HT.out.step hS).e0
    go_simp
    with_reducible rfl
  rotate_left
  · simp only [Act.put, List.setIfInBounds_toArray, List.set_cons_zero, List.set_cons_succ, i64_w, i32_w]
    rfl
  refine pure_ (i := 3) (N := some 46) (v := ?_) (a' := ?_) #[true, true, true, true, false, false, false] rfl rfl (by kernel_rfl) (fun _ _ _ h => h) (Or.inl ⟨by rfl, ?_⟩) ?_ ?_
  rotate_left
  · intro w'
    go_simp
    with_reducible rfl
  rotate_left
  · simp only [Act.put, List.setIfInBounds_toArray, List.set_cons_zero, List.set_cons_succ, i64_w, i32_w]
    rfl
  refine take_ (i := 4) (N := some 47) (v := ?_) (a' := ?_) #[true, true, true, true, true, false, false] rfl rfl (by kernel_rfl) (fun _ _ _ h => h) (Or.inl ⟨by rfl, ?_⟩) hHeld ?_ ?_
  rotate_left
  · intro w' hS
    have c0_ := (HK0.out.step hS).k0
    have c1_ := (HK0.out.step hS).k1
    have c2_ := (HK0.out.step hS).k2
    go_simp
    with_reducible rfl
  rotate_left
  · simp only [Act.put, List.setIfInBounds_toArray, List.set_cons_zero, List.set_cons_succ, i64_w, i32_w]
    rfl
  refine last_ (i := 5) (N := some 48) #[true, true, true, true, true, true, false] rfl rfl (by kernel_rfl) (by simp) (fun K hK => ?_)
  refine goesP_ Try.func27 (by kernel_rfl) rfl #[.agg #[.int .i64 ky, .int .i64 vl, .int .i64 tm, .int .i64 ac], .agg #[.int .i64 x0.f0, .int .i64 x0.f1, .slice B0 x0.f2.length d0]] (by rfl) rfl rfl (by (try simp only [List.map_toArray, List.map_cons, List.map_nil]); first | done | rfl) ?_
  refine (ih x0 B0 d0 ky vl tm ac _ _ hf0 (Kd.C_below HK0.out.kr hHeld) HK0.out.kl HV0.out).mono ?_
  rintro e_ w3 ⟨rfl, hb_⟩
  replace hb_ := below_step hHeld hb_
  refine Or.inl ⟨_, rfl, ?_⟩
  replace HT := Aside0.mk (HT.out.step hb_)
  replace HK1 := Aside0.mk (HK1.out.step hb_)
  refine hK.out _ _ ?_
  clear hK K
  refine norm_ (a' := ?_) ?_ ?_
  rotate_left
  · show Act.put _ (some 48) _ = _
    simp only [Act.put, List.setIfInBounds_toArray, List.set_cons_zero, List.set_cons_succ, i64_w, i32_w]
    rfl
  refine pure_ (i := 6) (N := some 49) (v := ?_) (a' := ?_) #[true, true, true, true, true, true, true] rfl rfl (by kernel_rfl) (fun _ _ _ h => h) (Or.inl ⟨by rfl, ?_⟩) ?_ ?_
  rotate_left
  · intro w'
    go_simp
    with_reducible rfl
  rotate_left
  · simp only [Act.put, List.setIfInBounds_toArray, List.set_cons_zero, List.set_cons_succ, i64_w, i32_w]
    rfl
  refine done_ (by kernel_rfl) ?_
  go_upto_region 16 with fail
  refine start_ (n := 7) (S := fun w' => Below w3.heap.size w3 w') (ds := [5]) #[false, false, false, false, false, false, false] (by kernel_rfl) rfl rfl (below_drew (Below.refl _ _)) (fun hHeld => ?_)
  refine pure_ (i := 1) (N := some 51) (v := ?_) (a' := ?_) #[false, true, false, false, false, false, false] rfl rfl (by kernel_rfl) (fun _ _ _ h => h) (Or.inl ⟨by rfl, ?_⟩) ?_ ?_
  rotate_left
  · intro w'
    go_simp
    with_reducible rfl
  rotate_left
  · simp only [Act.put, List.setIfInBounds_toArray, List.set_cons_zero, List.set_cons_succ, i64_w, i32_w]
    rfl
  refine take_ (i := 0) (N := some 50) (v := ?_) (a' := ?_) #[true, true, false, false, false, false, false] rfl rfl (by kernel_rfl) (fun _ _ _ h => h) (Or.inl ⟨by rfl, ?_⟩) hHeld ?_ ?_
  rotate_left
  · intro w' hS
    obtain ⟨c0_, c1_, c2_, c3_⟩ := (HT.out.step hS).w0
    go_simp
    with_reducible rfl
  rotate_left
  · simp only [Act.put, List.setIfInBounds_toArray, List.set_cons_zero, List.set_cons_succ, i64_w, i32_w]
    rfl
  refine take_ (i := 2) (N := some 52) (v := ?_) (a' := ?_) #[true, true, true, false, false, false, false] rfl rfl (by kernel_rfl) (fun _ _ _ h => h) (Or.inl ⟨by rfl, ?_⟩) hHeld ?_ ?_
  rotate_left
  · intro w' hS
    obtain ⟨c0_, c1_, c2_⟩ := (HT.out.step hS).e0
    go_simp
    with_reducible rfl
  rotate_left
  · simp only [Act.put, List.setIfInBounds_toArray, List.set_cons_zero, List.set_cons_succ, i64_w, i32_w]
    rfl
  refine pure_ (i := 3) (N := some 53) (v := ?_) (a' := ?_) #[true, true, true, true, false, false, false] rfl rfl (by kernel_rfl) (fun _ _ _ h => h) (Or.inl ⟨by rfl, ?_⟩) ?_ ?_
  rotate_left
  · intro w'
    go_simp
    with_reducible rfl
  rotate_left
  · simp only [Act.put, List.setIfInBounds_toArray, List.set_cons_zero, List.set_cons_succ, i64_w, i32_w]
    rfl
  refine take_ (i := 4) (N := some 54) (v := ?_) (a' := ?_) #[true, true, true, true, true, false, false] rfl rfl (by kernel_rfl) (fun _ _ _ h => h) (Or.inl ⟨by rfl, ?_⟩) hHeld ?_ ?_
  rotate_left
  · intro w' hS
    have c0_ := (HK1.out.step hS).k0
    have c1_ := (HK1.out.step hS).k1
    have c2_ := (HK1.out.step hS).k2
    go_simp
    with_reducible rfl
  rotate_left
  · simp only [Act.put, List.setIfInBounds_toArray, List.set_cons_zero, List.set_cons_succ, i64_w, i32_w]
    rfl
  refine last_ (i := 5) (N := some 55) #[true, true, true, true, true, true, false] rfl rfl (by kernel_rfl) (by simp) (fun K hK => ?_)
  refine goesP_ Try.func27 (by kernel_rfl) rfl #[.agg #[.int .i64 ky, .int .i64 vl, .int .i64 tm, .int .i64 ac], .agg #[.int .i64 x1.f0, .int .i64 x1.f1, .slice B1 x1.f2.length d1]] (by rfl) rfl rfl (by (try simp only [List.map_toArray, List.map_cons, List.map_nil]); first | done | rfl) ?_
  refine (ih x1 B1 d1 ky vl tm ac _ _ hf1 (Kd.C_below HK1.out.kr hHeld) HK1.out.kl HV1.out).mono ?_
  rintro e_ w2 ⟨rfl, hb_⟩
  replace hb_ := below_step hHeld hb_
  exact Or.inr ⟨_, rfl, rfl, rfl, (HT.out.step hb_).bl⟩

theorem if_else {d : Nat} (ih : ValAt d) (n : Int) (l : List E) (ad : Addr) (c : Nat) (ky vl tm ac : Int) (w : World) (hC : Kd.C k27 w (some ad) l.length l) (hl : 2 < l.length) (x0 : E) (hx0 : l.getD 0 z27 = x0) (hf0 : fits d x0) (x2 : E) (hx2 : l.getD 2 z27 = x2) (hf2 : fits d x2) (q : Int) (hq : (q != 0) = false) (hv0 : valOf d ky vl tm ac x0 = some q) (r : Int) (hv2 : valOf d ky vl tm ac x2 = some r) :
    Calls Try.prog 27 #[.agg #[.int .i64 ky, .int .i64 vl, .int .i64 tm, .int .i64 ac], .agg #[.int .i64 13, .int .i64 n, .slice (some ad) l.length c]] w fun e_ w2 => e_ = ends (some r) ∧ Below w.heap.size w w2 := by
  have HV0 := Aside0.mk hv0
  clear hv0
  have HV2 := Aside0.mk hv2
  clear hv2
  go_enter Try.func27, Try.ntmps27
  go_upto_region 15 with fail
  have HT : Aside0 (Two w ((w.alloc (.cells #[.int .i64 ky, .int .i64 vl, .int .i64 tm, .int .i64 ac] 56)).alloc (.cells #[.int .i64 13, .int .i64 n, .slice (some ad) l.length c] 27)) w.heap.size (w.heap.size + 1) ky vl tm ac 13 n (some ad) l.length c l) :=
    ⟨⟨blk_alloc (blk_new w _) _, by have := blk_new (w.alloc (.cells #[.int .i64 ky, .int .i64 vl, .int .i64 tm, .int .i64 ac] 56)) (.cells #[.int .i64 13, .int .i64 n, .slice (some ad) l.length c] 27); simpa using this, below_alloc (below_alloc (Below.refl _ _) _) _, Kd.C_alloc (Kd.C_alloc hC _) _⟩⟩
  generalize hw0 : (w.alloc (.cells #[.int .i64 ky, .int .i64 vl, .int .i64 tm, .int .i64 ac] 56)).alloc (.cells #[.int .i64 13, .int .i64 n, .slice (some ad) l.length c] 27) = w1 at HT ⊢
  clear hw0 hC
  have hi0 : (0 < l.length) = True := eq_true (by omega)
  have hI0 : ((0 : Int) < (l.length : Int)) = True := eq_true (by omega)
  obtain ⟨B0, d0, hk_⟩ := kid_cell HT.out.rd 0 (by omega) (q := ad) (by exact Addr.add_zero' _) x0 hx0
  have HK0 := Aside0.mk hk_
  clear hk_
  have hi2 : (2 < l.length) = True := eq_true (by omega)
  have hI2 : ((2 : Int) < (l.length : Int)) = True := eq_true (by omega)
  obtain ⟨B2, d2, hk_⟩ := kid_cell HT.out.rd 2 (by omega) (q := ⟨ad.block, ad.off + 6, none⟩) (by exact add_lit ad 6 (by omega)) x2 hx2
  have HK2 := Aside0.mk hk_
  clear hk_
  refine start_ (n := 7) (S := fun w' => Below w1.heap.size w1 w') (ds := [5]) #[false, false, false, false, false, false, false] (by kernel_rfl) rfl rfl (below_drew (Below.refl _ _)) (fun hHeld => ?_)
  refine pure_ (i := 1) (N := some 44) (v := ?_) (a' := ?_) #[false, true, false, false, false, false, false] rfl rfl (by kernel_rfl) (fun _ _ _ h => h) (Or.inl ⟨by rfl, ?_⟩) ?_ ?_
  rotate_left
  · intro w'
    go_simp
    with_reducible rfl
  rotate_left
  · simp only [Act.put, List.setIfInBounds_toArray, List.set_cons_zero, List.set_cons_succ, i64_w, i32_w]
    rfl
  refine take_ (i := 0) (N := some 43) (v := ?_) (a' := ?_) #[true, true, false, false, false, false, false] rfl rfl (by kernel_rfl) (fun _ _ _ h => h) (Or.inl ⟨by rfl, ?_⟩) hHeld ?_ ?_
  rotate_left
  · intro w' hS
    obtain ⟨c0_, c1_, c2_, c3_⟩ := (HT.out.step hS).w0
    go_simp
    with_reducible rfl
  rotate_left
  · simp only [Act.put, List.setIfInBounds_toArray, List.set_cons_zero, List.set_cons_succ, i64_w, i32_w]
    rfl
  refine take_ (i := 2) (N := some 45) (v := ?_) (a' := ?_) #[true, true, true, false, false, false, false] rfl rfl (by kernel_rfl) (fun _ _ _ h => h) (Or.inl ⟨by rfl, ?_⟩) hHeld ?_ ?_
  rotate_left
  · intro w' hS
    obtain ⟨c0_, c1_, c2_⟩ := (HT.out.step hS).e0
    go_simp
    with_reducible rfl
  rotate_left
  · simp only [Act.put, List.setIfInBounds_toArray, List.set_cons_zero, List.set_cons_succ, i64_w, i32_w]
    rfl
  refine pure_ (i := 3) (N := some 46) (v := ?_) (a' := ?_) #[true, true, true, true, false, false, false] rfl rfl (by kernel_rfl) (fun _ _ _ h => h) (Or.inl ⟨by rfl, ?_⟩) ?_ ?_
  rotate_left
  · intro w'
    go_simp
    with_reducible rfl
  rotate_left
  · simp only [Act.put, List.setIfInBounds_toArray, List.set_cons_zero, List.set_cons_succ, i64_w, i32_w]
    rfl
  refine take_ (i := 4) (N := some 47) (v := ?_) (a' := ?_) #[true, true, true, true, true, false, false] rfl rfl (by kernel_rfl) (fun _ _ _ h => h) (Or.inl ⟨by rfl, ?_⟩) hHeld ?_ ?_
  rotate_left
  · intro w' hS
    have c0_ := (HK0.out.step hS).k0
    have c1_ := (HK0.out.step hS).k1
    have c2_ := (HK0.out.step hS).k2
    go_simp
    with_reducible rfl
  rotate_left
  · simp only [Act.put, List.setIfInBounds_toArray, List.set_cons_zero, List.set_cons_succ, i64_w, i32_w]
    rfl
  refine last_ (i := 5) (N := some 48) #[true, true, true, true, true, true, false] rfl rfl (by kernel_rfl) (by simp) (fun K hK => ?_)
  refine goesP_ Try.func27 (by kernel_rfl) rfl #[.agg #[.int .i64 ky, .int .i64 vl, .int .i64 tm, .int .i64 ac], .agg #[.int .i64 x0.f0, .int .i64 x0.f1, .slice B0 x0.f2.length d0]] (by rfl) rfl rfl (by (try simp only [List.map_toArray, List.map_cons, List.map_nil]); first | done | rfl) ?_
  refine (ih x0 B0 d0 ky vl tm ac _ _ hf0 (Kd.C_below HK0.out.kr hHeld) HK0.out.kl HV0.out).mono ?_
  rintro e_ w3 ⟨rfl, hb_⟩
  replace hb_ := below_step hHeld hb_
  refine Or.inl ⟨_, rfl, ?_⟩
  replace HT := Aside0.mk (HT.out.step hb_)
  replace HK2 := Aside0.mk (HK2.out.step hb_)
  refine hK.out _ _ ?_
  clear hK K
  refine norm_ (a' := ?_) ?_ ?_
  rotate_left
  · show Act.put _ (some 48) _ = _
    simp only [Act.put, List.setIfInBounds_toArray, List.set_cons_zero, List.set_cons_succ, i64_w, i32_w]
    rfl
  refine pure_ (i := 6) (N := some 49) (v := ?_) (a' := ?_) #[true, true, true, true, true, true, true] rfl rfl (by kernel_rfl) (fun _ _ _ h => h) (Or.inl ⟨by rfl, ?_⟩) ?_ ?_
  rotate_left
  · intro w'
    go_simp
    with_reducible rfl
  rotate_left
  · simp only [Act.put, List.setIfInBounds_toArray, List.set_cons_zero, List.set_cons_succ, i64_w, i32_w]
    rfl
  refine done_ (by kernel_rfl) ?_
  go_upto_region 17 with fail
  refine start_ (n := 7) (S := fun w' => Below w3.heap.size w3 w') (ds := [5]) #[false, false, false, false, false, false, false] (by kernel_rfl) rfl rfl (below_drew (Below.refl _ _)) (fun hHeld => ?_)
  refine pure_ (i := 1) (N := some 57) (v := ?_) (a' := ?_) #[false, true, false, false, false, false, false] rfl rfl (by kernel_rfl) (fun _ _ _ h => h) (Or.inl ⟨by rfl, ?_⟩) ?_ ?_
  rotate_left
  · intro w'
    go_simp
    with_reducible rfl
  rotate_left
  · simp only [Act.put, List.setIfInBounds_toArray, List.set_cons_zero, List.set_cons_succ, i64_w, i32_w]
    rfl
  refine take_ (i := 0) (N := some 56) (v := ?_) (a' := ?_) #[true, true, false, false, false, false, false] rfl rfl (by kernel_rfl) (fun _ _ _ h => h) (Or.inl ⟨by rfl, ?_⟩) hHeld ?_ ?_
  rotate_left
  · intro w' hS
    obtain ⟨c0_, c1_, c2_, c3_⟩ := (HT.out.step hS).w0
    go_simp
    with_reducible rfl
  rotate_left
  · simp only [Act.put, List.setIfInBounds_toArray, List.set_cons_zero, List.set_cons_succ, i64_w, i32_w]
    rfl
  refine take_ (i := 2) (N := some 58) (v := ?_) (a' := ?_) #[true, true, true, false, false, false, false] rfl rfl (by kernel_rfl) (fun _ _ _ h => h) (Or.inl ⟨by rfl, ?_⟩) hHeld ?_ ?_
  rotate_left
  · intro w' hS
    obtain ⟨c0_, c1_, c2_⟩ := (HT.out.step hS).e0
    go_simp
    with_reducible rfl
  rotate_left
  · simp only [Act.put, List.setIfInBounds_toArray, List.set_cons_zero, List.set_cons_succ, i64_w, i32_w]
    rfl
  refine pure_ (i := 3) (N := some 59) (v := ?_) (a' := ?_) #[true, true, true, true, false, false, false] rfl rfl (by kernel_rfl) (fun _ _ _ h => h) (Or.inl ⟨by rfl, ?_⟩) ?_ ?_
  rotate_left
  · intro w'
    go_simp
    with_reducible rfl
  rotate_left
  · simp only [Act.put, List.setIfInBounds_toArray, List.set_cons_zero, List.set_cons_succ, i64_w, i32_w]
    rfl
  refine take_ (i := 4) (N := some 60) (v := ?_) (a' := ?_) #[true, true, true, true, true, false, false] rfl rfl (by kernel_rfl) (fun _ _ _ h => h) (Or.inl ⟨by rfl, ?_⟩) hHeld ?_ ?_
  rotate_left
  · intro w' hS
    have c0_ := (HK2.out.step hS).k0
    have c1_ := (HK2.out.step hS).k1
    have c2_ := (HK2.out.step hS).k2
    go_simp
    with_reducible rfl
  rotate_left
  · simp only [Act.put, List.setIfInBounds_toArray, List.set_cons_zero, List.set_cons_succ, i64_w, i32_w]
    rfl
  refine last_ (i := 5) (N := some 61) #[true, true, true, true, true, true, false] rfl rfl (by kernel_rfl) (by simp) (fun K hK => ?_)
  refine goesP_ Try.func27 (by kernel_rfl) rfl #[.agg #[.int .i64 ky, .int .i64 vl, .int .i64 tm, .int .i64 ac], .agg #[.int .i64 x2.f0, .int .i64 x2.f1, .slice B2 x2.f2.length d2]] (by rfl) rfl rfl (by (try simp only [List.map_toArray, List.map_cons, List.map_nil]); first | done | rfl) ?_
  refine (ih x2 B2 d2 ky vl tm ac _ _ hf2 (Kd.C_below HK2.out.kr hHeld) HK2.out.kl HV2.out).mono ?_
  rintro e_ w2 ⟨rfl, hb_⟩
  replace hb_ := below_step hHeld hb_
  refine Or.inl ⟨_, rfl, ?_⟩
  replace HT := Aside0.mk (HT.out.step hb_)
  refine hK.out _ _ ?_
  clear hK K
  refine norm_ (a' := ?_) ?_ ?_
  rotate_left
  · show Act.put _ (some 61) _ = _
    simp only [Act.put, List.setIfInBounds_toArray, List.set_cons_zero, List.set_cons_succ, i64_w, i32_w]
    rfl
  refine pure_ (i := 6) (N := some 4) (v := ?_) (a' := ?_) #[true, true, true, true, true, true, true] rfl rfl (by kernel_rfl) (fun _ _ _ h => h) (Or.inl ⟨by rfl, ?_⟩) ?_ ?_
  rotate_left
  · intro w'
    go_simp
    with_reducible rfl
  rotate_left
  · simp only [Act.put, List.setIfInBounds_toArray, List.set_cons_zero, List.set_cons_succ, i64_w, i32_w]
    rfl
  refine done_ (by kernel_rfl) ?_
  go_wp2
  go_ret
  exact ⟨rfl, HT.out.bl⟩

theorem if_else_none {d : Nat} (ih : ValAt d) (n : Int) (l : List E) (ad : Addr) (c : Nat) (ky vl tm ac : Int) (w : World) (hC : Kd.C k27 w (some ad) l.length l) (hl : 2 < l.length) (x0 : E) (hx0 : l.getD 0 z27 = x0) (hf0 : fits d x0) (x2 : E) (hx2 : l.getD 2 z27 = x2) (hf2 : fits d x2) (q : Int) (hq : (q != 0) = false) (hv0 : valOf d ky vl tm ac x0 = some q) (hv2 : valOf d ky vl tm ac x2 = none) :
    Calls Try.prog 27 #[.agg #[.int .i64 ky, .int .i64 vl, .int .i64 tm, .int .i64 ac], .agg #[.int .i64 13, .int .i64 n, .slice (some ad) l.length c]] w fun e_ w2 => e_ = ends (none) ∧ Below w.heap.size w w2 := by
  have HV0 := Aside0.mk hv0
  clear hv0
  have HV2 := Aside0.mk hv2
  clear hv2
  go_enter Try.func27, Try.ntmps27
  go_upto_region 15 with fail
  have HT : Aside0 (Two w ((w.alloc (.cells #[.int .i64 ky, .int .i64 vl, .int .i64 tm, .int .i64 ac] 56)).alloc (.cells #[.int .i64 13, .int .i64 n, .slice (some ad) l.length c] 27)) w.heap.size (w.heap.size + 1) ky vl tm ac 13 n (some ad) l.length c l) :=
    ⟨⟨blk_alloc (blk_new w _) _, by have := blk_new (w.alloc (.cells #[.int .i64 ky, .int .i64 vl, .int .i64 tm, .int .i64 ac] 56)) (.cells #[.int .i64 13, .int .i64 n, .slice (some ad) l.length c] 27); simpa using this, below_alloc (below_alloc (Below.refl _ _) _) _, Kd.C_alloc (Kd.C_alloc hC _) _⟩⟩
  generalize hw0 : (w.alloc (.cells #[.int .i64 ky, .int .i64 vl, .int .i64 tm, .int .i64 ac] 56)).alloc (.cells #[.int .i64 13, .int .i64 n, .slice (some ad) l.length c] 27) = w1 at HT ⊢
  clear hw0 hC
  have hi0 : (0 < l.length) = True := eq_true (by omega)
  have hI0 : ((0 : Int) < (l.length : Int)) = True := eq_true (by omega)
  obtain ⟨B0, d0, hk_⟩ := kid_cell HT.out.rd 0 (by omega) (q := ad) (by exact Addr.add_zero' _) x0 hx0
  have HK0 := Aside0.mk hk_
  clear hk_
  have hi2 : (2 < l.length) = True := eq_true (by omega)
  have hI2 : ((2 : Int) < (l.length : Int)) = True := eq_true (by omega)
  obtain ⟨B2, d2, hk_⟩ := kid_cell HT.out.rd 2 (by omega) (q := ⟨ad.block, ad.off + 6, none⟩) (by exact add_lit ad 6 (by omega)) x2 hx2
  have HK2 := Aside0.mk hk_
  clear hk_
  refine start_ (n := 7) (S := fun w' => Below w1.heap.size w1 w') (ds := [5]) #[false, false, false, false, false, false, false] (by kernel_rfl) rfl rfl (below_drew (Below.refl _ _)) (fun hHeld => ?_)
  refine pure_ (i := 1) (N := some 44) (v := ?_) (a' := ?_) #[false, true, false, false, false, false, false] rfl rfl (by kernel_rfl) (fun _ _ _ h => h) (Or.inl ⟨by rfl, ?_⟩) ?_ ?_
  rotate_left
  · intro w'
    go_simp
    with_reducible rfl
  rotate_left
  · simp only [Act.put, List.setIfInBounds_toArray, List.set_cons_zero, List.set_cons_succ, i64_w, i32_w]
    rfl
  refine take_ (i := 0) (N := some 43) (v := ?_) (a' := ?_) #[true, true, false, false, false, false, false] rfl rfl (by kernel_rfl) (fun _ _ _ h => h) (Or.inl ⟨by rfl, ?_⟩) hHeld ?_ ?_
  rotate_left
  · intro w' hS
    obtain ⟨c0_, c1_, c2_, c3_⟩ := (HT.out.step hS).w0
    go_simp
    with_reducible rfl
  rotate_left
  · simp only [Act.put, List.setIfInBounds_toArray, List.set_cons_zero, List.set_cons_succ, i64_w, i32_w]
    rfl
  refine take_ (i := 2) (N := some 45) (v := ?_) (a' := ?_) #[true, true, true, false, false, false, false] rfl rfl (by kernel_rfl) (fun _ _ _ h => h) (Or.inl ⟨by rfl, ?_⟩) hHeld ?_ ?_
  rotate_left
  · intro w' hS
    obtain ⟨c0_, c1_, c2_⟩ := (HT.out.step hS).e0
    go_simp
    with_reducible rfl
  rotate_left
  · simp only [Act.put, List.setIfInBounds_toArray, List.set_cons_zero, List.set_cons_succ, i64_w, i32_w]
    rfl
  refine pure_ (i := 3) (N := some 46) (v := ?_) (a' := ?_) #[true, true, true, true, false, false, false] rfl rfl (by kernel_rfl) (fun _ _ _ h => h) (Or.inl ⟨by rfl, ?_⟩) ?_ ?_
  rotate_left
  · intro w'
    go_simp
    with_reducible rfl
  rotate_left
  · simp only [Act.put, List.setIfInBounds_toArray, List.set_cons_zero, List.set_cons_succ, i64_w, i32_w]
    rfl
  refine take_ (i := 4) (N := some 47) (v := ?_) (a' := ?_) #[true, true, true, true, true, false, false] rfl rfl (by kernel_rfl) (fun _ _ _ h => h) (Or.inl ⟨by rfl, ?_⟩) hHeld ?_ ?_
  rotate_left
  · intro w' hS
    have c0_ := (HK0.out.step hS).k0
    have c1_ := (HK0.out.step hS).k1
    have c2_ := (HK0.out.step hS).k2
    go_simp
    with_reducible rfl
  rotate_left
  · simp only [Act.put, List.setIfInBounds_toArray, List.set_cons_zero, List.set_cons_succ, i64_w, i32_w]
    rfl
  refine last_ (i := 5) (N := some 48) #[true, true, true, true, true, true, false] rfl rfl (by kernel_rfl) (by simp) (fun K hK => ?_)
  refine goesP_ Try.func27 (by kernel_rfl) rfl #[.agg #[.int .i64 ky, .int .i64 vl, .int .i64 tm, .int .i64 ac], .agg #[.int .i64 x0.f0, .int .i64 x0.f1, .slice B0 x0.f2.length d0]] (by rfl) rfl rfl (by (try simp only [List.map_toArray, List.map_cons, List.map_nil]); first | done | rfl) ?_
  refine (ih x0 B0 d0 ky vl tm ac _ _ hf0 (Kd.C_below HK0.out.kr hHeld) HK0.out.kl HV0.out).mono ?_
  rintro e_ w3 ⟨rfl, hb_⟩
  replace hb_ := below_step hHeld hb_
  refine Or.inl ⟨_, rfl, ?_⟩
  replace HT := Aside0.mk (HT.out.step hb_)
  replace HK2 := Aside0.mk (HK2.out.step hb_)
  refine hK.out _ _ ?_
  clear hK K
  refine norm_ (a' := ?_) ?_ ?_
  rotate_left
  · show Act.put _ (some 48) _ = _
    simp only [Act.put, List.setIfInBounds_toArray, List.set_cons_zero, List.set_cons_succ, i64_w, i32_w]
    rfl
  refine pure_ (i := 6) (N := some 49) (v := ?_) (a' := ?_) #[true, true, true, true, true, true, true] rfl rfl (by kernel_rfl) (fun _ _ _ h => h) (Or.inl ⟨by rfl, ?_⟩) ?_ ?_
  rotate_left
  · intro w'
    go_simp
    with_reducible rfl
  rotate_left
  · simp only [Act.put, List.setIfInBounds_toArray, List.set_cons_zero, List.set_cons_succ, i64_w, i32_w]
    rfl
  refine done_ (by kernel_rfl) ?_
  go_upto_region 17 with fail
  refine start_ (n := 7) (S := fun w' => Below w3.heap.size w3 w') (ds := [5]) #[false, false, false, false, false, false, false] (by kernel_rfl) rfl rfl (below_drew (Below.refl _ _)) (fun hHeld => ?_)
  refine pure_ (i := 1) (N := some 57) (v := ?_) (a' := ?_) #[false, true, false, false, false, false, false] rfl rfl (by kernel_rfl) (fun _ _ _ h => h) (Or.inl ⟨by rfl, ?_⟩) ?_ ?_
  rotate_left
  · intro w'
    go_simp
    with_reducible rfl
  rotate_left
  · simp only [Act.put, List.setIfInBounds_toArray, List.set_cons_zero, List.set_cons_succ, i64_w, i32_w]
    rfl
  refine take_ (i := 0) (N := some 56) (v := ?_) (a' := ?_) #[true, true, false, false, false, false, false] rfl rfl (by kernel_rfl) (fun _ _ _ h => h) (Or.inl ⟨by rfl, ?_⟩) hHeld ?_ ?_
  rotate_left
  · intro w' hS
    obtain ⟨c0_, c1_, c2_, c3_⟩ := (HT.out.step hS).w0
    go_simp
    with_reducible rfl
  rotate_left
  · simp only [Act.put, List.setIfInBounds_toArray, List.set_cons_zero, List.set_cons_succ, i64_w, i32_w]
    rfl
  refine take_ (i := 2) (N := some 58) (v := ?_) (a' := ?_) #[true, true, true, false, false, false, false] rfl rfl (by kernel_rfl) (fun _ _ _ h => h) (Or.inl ⟨by rfl, ?_⟩) hHeld ?_ ?_
  rotate_left
  · intro w' hS
    obtain ⟨c0_, c1_, c2_⟩ := (HT.out.step hS).e0
    go_simp
    with_reducible rfl
  rotate_left
  · simp only [Act.put, List.setIfInBounds_toArray, List.set_cons_zero, List.set_cons_succ, i64_w, i32_w]
    rfl
  refine pure_ (i := 3) (N := some 59) (v := ?_) (a' := ?_) #[true, true, true, true, false, false, false] rfl rfl (by kernel_rfl) (fun _ _ _ h => h) (Or.inl ⟨by rfl, ?_⟩) ?_ ?_
  rotate_left
  · intro w'
    go_simp
    with_reducible rfl
  rotate_left
  · simp only [Act.put, List.setIfInBounds_toArray, List.set_cons_zero, List.set_cons_succ, i64_w, i32_w]
    rfl
  refine take_ (i := 4) (N := some 60) (v := ?_) (a' := ?_) #[true, true, true, true, true, false, false] rfl rfl (by kernel_rfl) (fun _ _ _ h => h) (Or.inl ⟨by rfl, ?_⟩) hHeld ?_ ?_
  rotate_left
  · intro w' hS
    have c0_ := (HK2.out.step hS).k0
    have c1_ := (HK2.out.step hS).k1
    have c2_ := (HK2.out.step hS).k2
    go_simp
    with_reducible rfl
  rotate_left
  · simp only [Act.put, List.setIfInBounds_toArray, List.set_cons_zero, List.set_cons_succ, i64_w, i32_w]
    rfl
  refine last_ (i := 5) (N := some 61) #[true, true, true, true, true, true, false] rfl rfl (by kernel_rfl) (by simp) (fun K hK => ?_)
  refine goesP_ Try.func27 (by kernel_rfl) rfl #[.agg #[.int .i64 ky, .int .i64 vl, .int .i64 tm, .int .i64 ac], .agg #[.int .i64 x2.f0, .int .i64 x2.f1, .slice B2 x2.f2.length d2]] (by rfl) rfl rfl (by (try simp only [List.map_toArray, List.map_cons, List.map_nil]); first | done | rfl) ?_
  refine (ih x2 B2 d2 ky vl tm ac _ _ hf2 (Kd.C_below HK2.out.kr hHeld) HK2.out.kl HV2.out).mono ?_
  rintro e_ w2 ⟨rfl, hb_⟩
  replace hb_ := below_step hHeld hb_
  exact Or.inr ⟨_, rfl, rfl, rfl, (HT.out.step hb_).bl⟩

theorem two_none0 (op : Int) (g1 : (op == 1) = false) (g2 : (op == 2) = false) (g3 : (op == 3) = false) (g4 : (op == 4) = false) (g5 : (op == 5) = false) (g6 : (op == 14) = false) (g7 : (op == 13) = false) {d : Nat} (ih : ValAt d) (n : Int) (l : List E) (ad : Addr) (c : Nat) (ky vl tm ac : Int) (w : World) (hC : Kd.C k27 w (some ad) l.length l) (hl : 0 < l.length) (x0 : E) (hx0 : l.getD 0 z27 = x0) (hf0 : fits d x0) (hv0 : valOf d ky vl tm ac x0 = none) :
    Calls Try.prog 27 #[.agg #[.int .i64 ky, .int .i64 vl, .int .i64 tm, .int .i64 ac], .agg #[.int .i64 op, .int .i64 n, .slice (some ad) l.length c]] w fun e_ w2 => e_ = ends (none) ∧ Below w.heap.size w w2 := by
  have HV0 := Aside0.mk hv0
  clear hv0
  go_enter Try.func27, Try.ntmps27
  go_upto_region 18 with fail
  have HT : Aside0 (Two w ((w.alloc (.cells #[.int .i64 ky, .int .i64 vl, .int .i64 tm, .int .i64 ac] 56)).alloc (.cells #[.int .i64 op, .int .i64 n, .slice (some ad) l.length c] 27)) w.heap.size (w.heap.size + 1) ky vl tm ac op n (some ad) l.length c l) :=
    ⟨⟨blk_alloc (blk_new w _) _, by have := blk_new (w.alloc (.cells #[.int .i64 ky, .int .i64 vl, .int .i64 tm, .int .i64 ac] 56)) (.cells #[.int .i64 op, .int .i64 n, .slice (some ad) l.length c] 27); simpa using this, below_alloc (below_alloc (Below.refl _ _) _) _, Kd.C_alloc (Kd.C_alloc hC _) _⟩⟩
  generalize hw0 : (w.alloc (.cells #[.int .i64 ky, .int .i64 vl, .int .i64 tm, .int .i64 ac] 56)).alloc (.cells #[.int .i64 op, .int .i64 n, .slice (some ad) l.length c] 27) = w1 at HT ⊢
  clear hw0 hC
  have hi0 : (0 < l.length) = True := eq_true (by omega)
  have hI0 : ((0 : Int) < (l.length : Int)) = True := eq_true (by omega)
  obtain ⟨B0, d0, hk_⟩ := kid_cell HT.out.rd 0 (by omega) (q := ad) (by exact Addr.add_zero' _) x0 hx0
  have HK0 := Aside0.mk hk_
  clear hk_
  refine start_ (n := 7) (S := fun w' => Below w1.heap.size w1 w') (ds := [5]) #[false, false, false, false, false, false, false] (by kernel_rfl) rfl rfl (below_drew (Below.refl _ _)) (fun hHeld => ?_)
  refine pure_ (i := 1) (N := some 63) (v := ?_) (a' := ?_) #[false, true, false, false, false, false, false] rfl rfl (by kernel_rfl) (fun _ _ _ h => h) (Or.inl ⟨by rfl, ?_⟩) ?_ ?_
  rotate_left
  · intro w'
    go_simp
    with_reducible rfl
  rotate_left
  · simp only [Act.put, List.setIfInBounds_toArray, List.set_cons_zero, List.set_cons_succ, i64_w, i32_w]
    rfl
  refine take_ (i := 0) (N := some 62) (v := ?_) (a' := ?_) #[true, true, false, false, false, false, false] rfl rfl (by kernel_rfl) (fun _ _ _ h => h) (Or.inl ⟨by rfl, ?_⟩) hHeld ?_ ?_
  rotate_left
  · intro w' hS
    obtain ⟨c0_, c1_, c2_, c3_⟩ := (HT.out.step hS).w0
    go_simp
    with_reducible rfl
  rotate_left
  · simp only [Act.put, List.setIfInBounds_toArray, List.set_cons_zero, List.set_cons_succ, i64_w, i32_w]
    rfl
  refine take_ (i := 2) (N := some 64) (v := ?_) (a' := ?_) #[true, true, true, false, false, false, false] rfl rfl (by kernel_rfl) (fun _ _ _ h => h) (Or.inl ⟨by rfl, ?_⟩) hHeld ?_ ?_
  rotate_left
  · intro w' hS
    obtain ⟨c0_, c1_, c2_⟩ := (HT.out.step hS).e0
    go_simp
    with_reducible rfl
  rotate_left
  · simp only [Act.put, List.setIfInBounds_toArray, List.set_cons_zero, List.set_cons_succ, i64_w, i32_w]
    rfl
  refine pure_ (i := 3) (N := some 65) (v := ?_) (a' := ?_) #[true, true, true, true, false, false, false] rfl rfl (by kernel_rfl) (fun _ _ _ h => h) (Or.inl ⟨by rfl, ?_⟩) ?_ ?_
  rotate_left
  · intro w'
    go_simp
    with_reducible rfl
  rotate_left
  · simp only [Act.put, List.setIfInBounds_toArray, List.set_cons_zero, List.set_cons_succ, i64_w, i32_w]
    rfl
  refine take_ (i := 4) (N := some 66) (v := ?_) (a' := ?_) #[true, true, true, true, true, false, false] rfl rfl (by kernel_rfl) (fun _ _ _ h => h) (Or.inl ⟨by rfl, ?_⟩) hHeld ?_ ?_
  rotate_left
  · intro w' hS
    have c0_ := (HK0.out.step hS).k0
    have c1_ := (HK0.out.step hS).k1
    have c2_ := (HK0.out.step hS).k2
    go_simp
    with_reducible rfl
  rotate_left
  · simp only [Act.put, List.setIfInBounds_toArray, List.set_cons_zero, List.set_cons_succ, i64_w, i32_w]
    rfl
  refine last_ (i := 5) (N := some 67) #[true, true, true, true, true, true, false] rfl rfl (by kernel_rfl) (by simp) (fun K hK => ?_)
  refine goesP_ Try.func27 (by kernel_rfl) rfl #[.agg #[.int .i64 ky, .int .i64 vl, .int .i64 tm, .int .i64 ac], .agg #[.int .i64 x0.f0, .int .i64 x0.f1, .slice B0 x0.f2.length d0]] (by rfl) rfl rfl (by (try simp only [List.map_toArray, List.map_cons, List.map_nil]); first | done | rfl) ?_
  refine (ih x0 B0 d0 ky vl tm ac _ _ hf0 (Kd.C_below HK0.out.kr hHeld) HK0.out.kl HV0.out).mono ?_
  rintro e_ w2 ⟨rfl, hb_⟩
  replace hb_ := below_step hHeld hb_
  exact Or.inr ⟨_, rfl, rfl, rfl, (HT.out.step hb_).bl⟩

theorem two_none1 (op : Int) (g1 : (op == 1) = false) (g2 : (op == 2) = false) (g3 : (op == 3) = false) (g4 : (op == 4) = false) (g5 : (op == 5) = false) (g6 : (op == 14) = false) (g7 : (op == 13) = false) {d : Nat} (ih : ValAt d) (n : Int) (l : List E) (ad : Addr) (c : Nat) (ky vl tm ac : Int) (w : World) (hC : Kd.C k27 w (some ad) l.length l) (hl : 1 < l.length) (x0 : E) (hx0 : l.getD 0 z27 = x0) (hf0 : fits d x0) (x1 : E) (hx1 : l.getD 1 z27 = x1) (hf1 : fits d x1) (a : Int) (hv0 : valOf d ky vl tm ac x0 = some a) (hv1 : valOf d ky vl tm ac x1 = none) :
    Calls Try.prog 27 #[.agg #[.int .i64 ky, .int .i64 vl, .int .i64 tm, .int .i64 ac], .agg #[.int .i64 op, .int .i64 n, .slice (some ad) l.length c]] w fun e_ w2 => e_ = ends (none) ∧ Below w.heap.size w w2 := by
  have HV0 := Aside0.mk hv0
  clear hv0
  have HV1 := Aside0.mk hv1
  clear hv1
  go_enter Try.func27, Try.ntmps27
  go_upto_region 18 with fail
  have HT : Aside0 (Two w ((w.alloc (.cells #[.int .i64 ky, .int .i64 vl, .int .i64 tm, .int .i64 ac] 56)).alloc (.cells #[.int .i64 op, .int .i64 n, .slice (some ad) l.length c] 27)) w.heap.size (w.heap.size + 1) ky vl tm ac op n (some ad) l.length c l) :=
    ⟨⟨blk_alloc (blk_new w _) _, by have := blk_new (w.alloc (.cells #[.int .i64 ky, .int .i64 vl, .int .i64 tm, .int .i64 ac] 56)) (.cells #[.int .i64 op, .int .i64 n, .slice (some ad) l.length c] 27); simpa using this, below_alloc (below_alloc (Below.refl _ _) _) _, Kd.C_alloc (Kd.C_alloc hC _) _⟩⟩
  generalize hw0 : (w.alloc (.cells #[.int .i64 ky, .int .i64 vl, .int .i64 tm, .int .i64 ac] 56)).alloc (.cells #[.int .i64 op, .int .i64 n, .slice (some ad) l.length c] 27) = w1 at HT ⊢
  clear hw0 hC
  have hi0 : (0 < l.length) = True := eq_true (by omega)
  have hI0 : ((0 : Int) < (l.length : Int)) = True := eq_true (by omega)
  obtain ⟨B0, d0, hk_⟩ := kid_cell HT.out.rd 0 (by omega) (q := ad) (by exact Addr.add_zero' _) x0 hx0
  have HK0 := Aside0.mk hk_
  clear hk_
  have hi1 : (1 < l.length) = True := eq_true (by omega)
  have hI1 : ((1 : Int) < (l.length : Int)) = True := eq_true (by omega)
  obtain ⟨B1, d1, hk_⟩ := kid_cell HT.out.rd 1 (by omega) (q := ⟨ad.block, ad.off + 3, none⟩) (by exact add_lit ad 3 (by omega)) x1 hx1
  have HK1 := Aside0.mk hk_
  clear hk_
  refine start_ (n := 7) (S := fun w' => Below w1.heap.size w1 w') (ds := [5]) #[false, false, false, false, false, false, false] (by kernel_rfl) rfl rfl (below_drew (Below.refl _ _)) (fun hHeld => ?_)
  refine pure_ (i := 1) (N := some 63) (v := ?_) (a' := ?_) #[false, true, false, false, false, false, false] rfl rfl (by kernel_rfl) (fun _ _ _ h => h) (Or.inl ⟨by rfl, ?_⟩) ?_ ?_
  rotate_left
  · intro w'
    go_simp
    with_reducible rfl
  rotate_left
  · simp only [Act.put, List.setIfInBounds_toArray, List.set_cons_zero, List.set_cons_succ, i64_w, i32_w]
    rfl
  refine take_ (i := 0) (N := some 62) (v := ?_) (a' := ?_) #[true, true, false, false, false, false, false] rfl rfl (by kernel_rfl) (fun _ _ _ h => h) (Or.inl ⟨by rfl, ?_⟩) hHeld ?_ ?_
  rotate_left
  · intro w' hS
    obtain ⟨c0_, c1_, c2_, c3_⟩ := (HT.out.step hS).w0
    go_simp
    with_reducible rfl
  rotate_left
  · simp only [Act.put, List.setIfInBounds_toArray, List.set_cons_zero, List.set_cons_succ, i64_w, i32_w]
    rfl
  refine take_ (i := 2) (N := some 64) (v := ?_) (a' := ?_) #[true, true, true, false, false, false, false] rfl rfl (by kernel_rfl) (fun _ _ _ h => h) (Or.inl ⟨by rfl, ?_⟩) hHeld ?_ ?_
  rotate_left
  · intro w' hS
    obtain ⟨c0_, c1_, c2_⟩ := (HT.out.step hS).e0
    go_simp
    with_reducible rfl
  rotate_left
  · simp only [Act.put, List.setIfInBounds_toArray, List.set_cons_zero, List.set_cons_succ, i64_w, i32_w]
    rfl
  refine pure_ (i := 3) (N := some 65) (v := ?_) (a' := ?_) #[true, true, true, true, false, false, false] rfl rfl (by kernel_rfl) (fun _ _ _ h => h) (Or.inl ⟨by rfl, ?_⟩) ?_ ?_
  rotate_left
  · intro w'
    go_simp
    with_reducible rfl
  rotate_left
  · simp only [Act.put, List.setIfInBounds_toArray, List.set_cons_zero, List.set_cons_succ, i64_w, i32_w]
    rfl
  refine take_ (i := 4) (N := some 66) (v := ?_) (a' := ?_) #[true, true, true, true, true, false, false] rfl rfl (by kernel_rfl) (fun _ _ _ h => h) (Or.inl ⟨by rfl, ?_⟩) hHeld ?_ ?_
  rotate_left
  · intro w' hS
    have c0_ := (HK0.out.step hS).k0
    have c1_ := (HK0.out.step hS).k1
    have c2_ := (HK0.out.step hS).k2
    go_simp
    with_reducible rfl
  rotate_left
  · simp only [Act.put, List.setIfInBounds_toArray, List.set_cons_zero, List.set_cons_succ, i64_w, i32_w]
    rfl
  refine last_ (i := 5) (N := some 67) #[true, true, true, true, true, true, false] rfl rfl (by kernel_rfl) (by simp) (fun K hK => ?_)
  refine goesP_ Try.func27 (by kernel_rfl) rfl #[.agg #[.int .i64 ky, .int .i64 vl, .int .i64 tm, .int .i64 ac], .agg #[.int .i64 x0.f0, .int .i64 x0.f1, .slice B0 x0.f2.length d0]] (by rfl) rfl rfl (by (try simp only [List.map_toArray, List.map_cons, List.map_nil]); first | done | rfl) ?_
  refine (ih x0 B0 d0 ky vl tm ac _ _ hf0 (Kd.C_below HK0.out.kr hHeld) HK0.out.kl HV0.out).mono ?_
  rintro e_ w3 ⟨rfl, hb_⟩
  replace hb_ := below_step hHeld hb_
  refine Or.inl ⟨_, rfl, ?_⟩
  replace HT := Aside0.mk (HT.out.step hb_)
  replace HK1 := Aside0.mk (HK1.out.step hb_)
  refine hK.out _ _ ?_
  clear hK K
  refine norm_ (a' := ?_) ?_ ?_
  rotate_left
  · show Act.put _ (some 67) _ = _
    simp only [Act.put, List.setIfInBounds_toArray, List.set_cons_zero, List.set_cons_succ, i64_w, i32_w]
    rfl
  refine pure_ (i := 6) (N := some 5) (v := ?_) (a' := ?_) #[true, true, true, true, true, true, true] rfl rfl (by kernel_rfl) (fun _ _ _ h => h) (Or.inl ⟨by rfl, ?_⟩) ?_ ?_
  rotate_left
  · intro w'
    go_simp
    with_reducible rfl
  rotate_left
  · simp only [Act.put, List.setIfInBounds_toArray, List.set_cons_zero, List.set_cons_succ, i64_w, i32_w]
    rfl
  refine done_ (by kernel_rfl) ?_

  go_upto_region 19 with fail
  refine start_ (n := 7) (S := fun w' => Below w3.heap.size w3 w') (ds := [5]) #[false, false, false, false, false, false, false] (by kernel_rfl) rfl rfl (below_drew (Below.refl _ _)) (fun hHeld => ?_)
  refine pure_ (i := 1) (N := some 69) (v := ?_) (a' := ?_) #[false, true, false, false, false, false, false] rfl rfl (by kernel_rfl) (fun _ _ _ h => h) (Or.inl ⟨by rfl, ?_⟩) ?_ ?_
  rotate_left
  · intro w'
    go_simp
    with_reducible rfl
  rotate_left
  · simp only [Act.put, List.setIfInBounds_toArray, List.set_cons_zero, List.set_cons_succ, i64_w, i32_w]
    rfl
  refine take_ (i := 0) (N := some 68) (v := ?_) (a' := ?_) #[true, true, false, false, false, false, false] rfl rfl (by kernel_rfl) (fun _ _ _ h => h) (Or.inl ⟨by rfl, ?_⟩) hHeld ?_ ?_
  rotate_left
  · intro w' hS
    obtain ⟨c0_, c1_, c2_, c3_⟩ := (HT.out.step hS).w0
    go_simp
    with_reducible rfl
  rotate_left
  · simp only [Act.put, List.setIfInBounds_toArray, List.set_cons_zero, List.set_cons_succ, i64_w, i32_w]
    rfl
  refine take_ (i := 2) (N := some 70) (v := ?_) (a' := ?_) #[true, true, true, false, false, false, false] rfl rfl (by kernel_rfl) (fun _ _ _ h => h) (Or.inl ⟨by rfl, ?_⟩) hHeld ?_ ?_
  rotate_left
  · intro w' hS
    obtain ⟨c0_, c1_, c2_⟩ := (HT.out.step hS).e0
    go_simp
    with_reducible rfl
  rotate_left
  · simp only [Act.put, List.setIfInBounds_toArray, List.set_cons_zero, List.set_cons_succ, i64_w, i32_w]
    rfl
  refine pure_ (i := 3) (N := some 71) (v := ?_) (a' := ?_) #[true, true, true, true, false, false, false] rfl rfl (by kernel_rfl) (fun _ _ _ h => h) (Or.inl ⟨by rfl, ?_⟩) ?_ ?_
  rotate_left
  · intro w'
    go_simp
    with_reducible rfl
  rotate_left
  · simp only [Act.put, List.setIfInBounds_toArray, List.set_cons_zero, List.set_cons_succ, i64_w, i32_w]
    rfl
  refine take_ (i := 4) (N := some 72) (v := ?_) (a' := ?_) #[true, true, true, true, true, false, false] rfl rfl (by kernel_rfl) (fun _ _ _ h => h) (Or.inl ⟨by rfl, ?_⟩) hHeld ?_ ?_
  rotate_left
  · intro w' hS
    have c0_ := (HK1.out.step hS).k0
    have c1_ := (HK1.out.step hS).k1
    have c2_ := (HK1.out.step hS).k2
    go_simp
    with_reducible rfl
  rotate_left
  · simp only [Act.put, List.setIfInBounds_toArray, List.set_cons_zero, List.set_cons_succ, i64_w, i32_w]
    rfl
  refine last_ (i := 5) (N := some 73) #[true, true, true, true, true, true, false] rfl rfl (by kernel_rfl) (by simp) (fun K hK => ?_)
  refine goesP_ Try.func27 (by kernel_rfl) rfl #[.agg #[.int .i64 ky, .int .i64 vl, .int .i64 tm, .int .i64 ac], .agg #[.int .i64 x1.f0, .int .i64 x1.f1, .slice B1 x1.f2.length d1]] (by rfl) rfl rfl (by (try simp only [List.map_toArray, List.map_cons, List.map_nil]); first | done | rfl) ?_
  refine (ih x1 B1 d1 ky vl tm ac _ _ hf1 (Kd.C_below HK1.out.kr hHeld) HK1.out.kl HV1.out).mono ?_
  rintro e_ w2 ⟨rfl, hb_⟩
  replace hb_ := below_step hHeld hb_
  exact Or.inr ⟨_, rfl, rfl, rfl, (HT.out.step hb_).bl⟩

theorem two_some (op : Int) (g1 : (op == 1) = false) (g2 : (op == 2) = false) (g3 : (op == 3) = false) (g4 : (op == 4) = false) (g5 : (op == 5) = false) (g6 : (op == 14) = false) (g7 : (op == 13) = false) {d : Nat} (ih : ValAt d) (n : Int) (l : List E) (ad : Addr) (c : Nat) (ky vl tm ac : Int) (w : World) (hC : Kd.C k27 w (some ad) l.length l) (hl : 1 < l.length) (x0 : E) (hx0 : l.getD 0 z27 = x0) (hf0 : fits d x0) (x1 : E) (hx1 : l.getD 1 z27 = x1) (hf1 : fits d x1) (a b : Int) (hv0 : valOf d ky vl tm ac x0 = some a) (hv1 : valOf d ky vl tm ac x1 = some b) (m : Option Int) (ht : twoOf op a b = m) :
    Calls Try.prog 27 #[.agg #[.int .i64 ky, .int .i64 vl, .int .i64 tm, .int .i64 ac], .agg #[.int .i64 op, .int .i64 n, .slice (some ad) l.length c]] w fun e_ w2 => e_ = ends (m) ∧ Below w.heap.size w w2 := by
  have HM := Aside0.mk ht
  clear ht
  have HV0 := Aside0.mk hv0
  clear hv0
  have HV1 := Aside0.mk hv1
  clear hv1
  go_enter Try.func27, Try.ntmps27
  go_upto_region 18 with fail
  have HT : Aside0 (Two w ((w.alloc (.cells #[.int .i64 ky, .int .i64 vl, .int .i64 tm, .int .i64 ac] 56)).alloc (.cells #[.int .i64 op, .int .i64 n, .slice (some ad) l.length c] 27)) w.heap.size (w.heap.size + 1) ky vl tm ac op n (some ad) l.length c l) :=
    ⟨⟨blk_alloc (blk_new w _) _, by have := blk_new (w.alloc (.cells #[.int .i64 ky, .int .i64 vl, .int .i64 tm, .int .i64 ac] 56)) (.cells #[.int .i64 op, .int .i64 n, .slice (some ad) l.length c] 27); simpa using this, below_alloc (below_alloc (Below.refl _ _) _) _, Kd.C_alloc (Kd.C_alloc hC _) _⟩⟩
  generalize hw0 : (w.alloc (.cells #[.int .i64 ky, .int .i64 vl, .int .i64 tm, .int .i64 ac] 56)).alloc (.cells #[.int .i64 op, .int .i64 n, .slice (some ad) l.length c] 27) = w1 at HT ⊢
  clear hw0 hC
  have hi0 : (0 < l.length) = True := eq_true (by omega)
  have hI0 : ((0 : Int) < (l.length : Int)) = True := eq_true (by omega)
  obtain ⟨B0, d0, hk_⟩ := kid_cell HT.out.rd 0 (by omega) (q := ad) (by exact Addr.add_zero' _) x0 hx0
  have HK0 := Aside0.mk hk_
  clear hk_
  have hi1 : (1 < l.length) = True := eq_true (by omega)
  have hI1 : ((1 : Int) < (l.length : Int)) = True := eq_true (by omega)
  obtain ⟨B1, d1, hk_⟩ := kid_cell HT.out.rd 1 (by omega) (q := ⟨ad.block, ad.off + 3, none⟩) (by exact add_lit ad 3 (by omega)) x1 hx1
  have HK1 := Aside0.mk hk_
  clear hk_
  refine start_ (n := 7) (S := fun w' => Below w1.heap.size w1 w') (ds := [5]) #[false, false, false, false, false, false, false] (by kernel_rfl) rfl rfl (below_drew (Below.refl _ _)) (fun hHeld => ?_)
  refine pure_ (i := 1) (N := some 63) (v := ?_) (a' := ?_) #[false, true, false, false, false, false, false] rfl rfl (by kernel_rfl) (fun _ _ _ h => h) (Or.inl ⟨by rfl, ?_⟩) ?_ ?_
  rotate_left
  · intro w'
    go_simp
    with_reducible rfl
  rotate_left
  · simp only [Act.put, List.setIfInBounds_toArray, List.set_cons_zero, List.set_cons_succ, i64_w, i32_w]
    rfl
  refine take_ (i := 0) (N := some 62) (v := ?_) (a' := ?_) #[true, true, false, false, false, false, false] rfl rfl (by kernel_rfl) (fun _ _ _ h => h) (Or.inl ⟨by rfl, ?_⟩) hHeld ?_ ?_
  rotate_left
  · intro w' hS
    obtain ⟨c0_, c1_, c2_, c3_⟩ := (HT.out.step hS).w0
    go_simp
    with_reducible rfl
  rotate_left
  · simp only [Act.put, List.setIfInBounds_toArray, List.set_cons_zero, List.set_cons_succ, i64_w, i32_w]
    rfl
  refine take_ (i := 2) (N := some 64) (v := ?_) (a' := ?_) #[true, true, true, false, false, false, false] rfl rfl (by kernel_rfl) (fun _ _ _ h => h) (Or.inl ⟨by rfl, ?_⟩) hHeld ?_ ?_
  rotate_left
  · intro w' hS
    obtain ⟨c0_, c1_, c2_⟩ := (HT.out.step hS).e0
    go_simp
    with_reducible rfl
  rotate_left
  · simp only [Act.put, List.setIfInBounds_toArray, List.set_cons_zero, List.set_cons_succ, i64_w, i32_w]
    rfl
  refine pure_ (i := 3) (N := some 65) (v := ?_) (a' := ?_) #[true, true, true, true, false, false, false] rfl rfl (by kernel_rfl) (fun _ _ _ h => h) (Or.inl ⟨by rfl, ?_⟩) ?_ ?_
  rotate_left
  · intro w'
    go_simp
    with_reducible rfl
  rotate_left
  · simp only [Act.put, List.setIfInBounds_toArray, List.set_cons_zero, List.set_cons_succ, i64_w, i32_w]
    rfl
  refine take_ (i := 4) (N := some 66) (v := ?_) (a' := ?_) #[true, true, true, true, true, false, false] rfl rfl (by kernel_rfl) (fun _ _ _ h => h) (Or.inl ⟨by rfl, ?_⟩) hHeld ?_ ?_
  rotate_left
  · intro w' hS
    have c0_ := (HK0.out.step hS).k0
    have c1_ := (HK0.out.step hS).k1
    have c2_ := (HK0.out.step hS).k2
    go_simp
    with_reducible rfl
  rotate_left
  · simp only [Act.put, List.setIfInBounds_toArray, List.set_cons_zero, List.set_cons_succ, i64_w, i32_w]
    rfl
  refine last_ (i := 5) (N := some 67) #[true, true, true, true, true, true, false] rfl rfl (by kernel_rfl) (by simp) (fun K hK => ?_)
  refine goesP_ Try.func27 (by kernel_rfl) rfl #[.agg #[.int .i64 ky, .int .i64 vl, .int .i64 tm, .int .i64 ac], .agg #[.int .i64 x0.f0, .int .i64 x0.f1, .slice B0 x0.f2.length d0]] (by rfl) rfl rfl (by (try simp only [List.map_toArray, List.map_cons, List.map_nil]); first | done | rfl) ?_
  refine (ih x0 B0 d0 ky vl tm ac _ _ hf0 (Kd.C_below HK0.out.kr hHeld) HK0.out.kl HV0.out).mono ?_
  rintro e_ w3 ⟨rfl, hb_⟩
  replace hb_ := below_step hHeld hb_
  refine Or.inl ⟨_, rfl, ?_⟩
  replace HT := Aside0.mk (HT.out.step hb_)
  replace HK1 := Aside0.mk (HK1.out.step hb_)
  refine hK.out _ _ ?_
  clear hK K
  refine norm_ (a' := ?_) ?_ ?_
  rotate_left
  · show Act.put _ (some 67) _ = _
    simp only [Act.put, List.setIfInBounds_toArray, List.set_cons_zero, List.set_cons_succ, i64_w, i32_w]
    rfl
  refine pure_ (i := 6) (N := some 5) (v := ?_) (a' := ?_) #[true, true, true, true, true, true, true] rfl rfl (by kernel_rfl) (fun _ _ _ h => h) (Or.inl ⟨by rfl, ?_⟩) ?_ ?_
  rotate_left
  · intro w'
    go_simp
    with_reducible rfl
  rotate_left
  · simp only [Act.put, List.setIfInBounds_toArray, List.set_cons_zero, List.set_cons_succ, i64_w, i32_w]
    rfl
  refine done_ (by kernel_rfl) ?_

  go_upto_region 19 with fail
  refine start_ (n := 7) (S := fun w' => Below w3.heap.size w3 w') (ds := [5]) #[false, false, false, false, false, false, false] (by kernel_rfl) rfl rfl (below_drew (Below.refl _ _)) (fun hHeld => ?_)
  refine pure_ (i := 1) (N := some 69) (v := ?_) (a' := ?_) #[false, true, false, false, false, false, false] rfl rfl (by kernel_rfl) (fun _ _ _ h => h) (Or.inl ⟨by rfl, ?_⟩) ?_ ?_
  rotate_left
  · intro w'
    go_simp
    with_reducible rfl
  rotate_left
  · simp only [Act.put, List.setIfInBounds_toArray, List.set_cons_zero, List.set_cons_succ, i64_w, i32_w]
    rfl
  refine take_ (i := 0) (N := some 68) (v := ?_) (a' := ?_) #[true, true, false, false, false, false, false] rfl rfl (by kernel_rfl) (fun _ _ _ h => h) (Or.inl ⟨by rfl, ?_⟩) hHeld ?_ ?_
  rotate_left
  · intro w' hS
    obtain ⟨c0_, c1_, c2_, c3_⟩ := (HT.out.step hS).w0
    go_simp
    with_reducible rfl
  rotate_left
  · simp only [Act.put, List.setIfInBounds_toArray, List.set_cons_zero, List.set_cons_succ, i64_w, i32_w]
    rfl
  refine take_ (i := 2) (N := some 70) (v := ?_) (a' := ?_) #[true, true, true, false, false, false, false] rfl rfl (by kernel_rfl) (fun _ _ _ h => h) (Or.inl ⟨by rfl, ?_⟩) hHeld ?_ ?_
  rotate_left
  · intro w' hS
    obtain ⟨c0_, c1_, c2_⟩ := (HT.out.step hS).e0
    go_simp
    with_reducible rfl
  rotate_left
  · simp only [Act.put, List.setIfInBounds_toArray, List.set_cons_zero, List.set_cons_succ, i64_w, i32_w]
    rfl
  refine pure_ (i := 3) (N := some 71) (v := ?_) (a' := ?_) #[true, true, true, true, false, false, false] rfl rfl (by kernel_rfl) (fun _ _ _ h => h) (Or.inl ⟨by rfl, ?_⟩) ?_ ?_
  rotate_left
  · intro w'
    go_simp
    with_reducible rfl
  rotate_left
  · simp only [Act.put, List.setIfInBounds_toArray, List.set_cons_zero, List.set_cons_succ, i64_w, i32_w]
    rfl
  refine take_ (i := 4) (N := some 72) (v := ?_) (a' := ?_) #[true, true, true, true, true, false, false] rfl rfl (by kernel_rfl) (fun _ _ _ h => h) (Or.inl ⟨by rfl, ?_⟩) hHeld ?_ ?_
  rotate_left
  · intro w' hS
    have c0_ := (HK1.out.step hS).k0
    have c1_ := (HK1.out.step hS).k1
    have c2_ := (HK1.out.step hS).k2
    go_simp
    with_reducible rfl
  rotate_left
  · simp only [Act.put, List.setIfInBounds_toArray, List.set_cons_zero, List.set_cons_succ, i64_w, i32_w]
    rfl
  refine last_ (i := 5) (N := some 73) #[true, true, true, true, true, true, false] rfl rfl (by kernel_rfl) (by simp) (fun K hK => ?_)
  refine goesP_ Try.func27 (by kernel_rfl) rfl #[.agg #[.int .i64 ky, .int .i64 vl, .int .i64 tm, .int .i64 ac], .agg #[.int .i64 x1.f0, .int .i64 x1.f1, .slice B1 x1.f2.length d1]] (by rfl) rfl rfl (by (try simp only [List.map_toArray, List.map_cons, List.map_nil]); first | done | rfl) ?_
  refine (ih x1 B1 d1 ky vl tm ac _ _ hf1 (Kd.C_below HK1.out.kr hHeld) HK1.out.kl HV1.out).mono ?_
  rintro e_ w4 ⟨rfl, hb_⟩
  replace hb_ := below_step hHeld hb_
  refine Or.inl ⟨_, rfl, ?_⟩
  replace HT := Aside0.mk (HT.out.step hb_)
  refine hK.out _ _ ?_
  clear hK K
  refine norm_ (a' := ?_) ?_ ?_
  rotate_left
  · show Act.put _ (some 73) _ = _
    simp only [Act.put, List.setIfInBounds_toArray, List.set_cons_zero, List.set_cons_succ, i64_w, i32_w]
    rfl
  refine pure_ (i := 6) (N := some 6) (v := ?_) (a' := ?_) #[true, true, true, true, true, true, true] rfl rfl (by kernel_rfl) (fun _ _ _ h => h) (Or.inl ⟨by rfl, ?_⟩) ?_ ?_
  rotate_left
  · intro w'
    go_simp
    with_reducible rfl
  rotate_left
  · simp only [Act.put, List.setIfInBounds_toArray, List.set_cons_zero, List.set_cons_succ, i64_w, i32_w]
    rfl
  refine done_ (by kernel_rfl) ?_

  obtain ⟨c0_, c1_, c2_⟩ := HT.out.e0
  go_wp2_with fail
  refine (two_any op a b _).mono ?_
  rintro e_ w5 ⟨he_, hb_⟩
  rw [HM.out] at he_
  clear HM c0_ c1_ c2_
  replace HT := Aside0.mk (HT.out.step hb_)
  clear hb_
  cases m with
  | none =>
    obtain rfl : e_ = .panicked divBy0 := he_
    exact ⟨rfl, rfl, HT.out.bl⟩
  | some m =>
    obtain rfl : e_ = .returned (.int .i64 m) := he_
    go_wp2
    go_ret
    exact ⟨rfl, HT.out.bl⟩
theorem leaf1 (n : Int) (l : List E) (A : Option Addr) (c : Nat) (ky vl tm ac : Int) (w : World) :
    Calls Try.prog 27 #[.agg #[.int .i64 ky, .int .i64 vl, .int .i64 tm, .int .i64 ac], .agg #[.int .i64 1, .int .i64 n, .slice A l.length c]] w fun e_ w2 => e_ = ends (some n) ∧ Below w.heap.size w w2 := by
  go_enter Try.func27, Try.ntmps27
  go_wp2
  go_ret
  exact ⟨rfl, below_alloc (below_alloc (Below.refl _ _) _) _⟩
theorem leaf2 (n : Int) (l : List E) (A : Option Addr) (c : Nat) (ky vl tm ac : Int) (w : World) :
    Calls Try.prog 27 #[.agg #[.int .i64 ky, .int .i64 vl, .int .i64 tm, .int .i64 ac], .agg #[.int .i64 2, .int .i64 n, .slice A l.length c]] w fun e_ w2 => e_ = ends (some ky) ∧ Below w.heap.size w w2 := by
  go_enter Try.func27, Try.ntmps27
  go_wp2
  go_ret
  exact ⟨rfl, below_alloc (below_alloc (Below.refl _ _) _) _⟩
theorem leaf3 (n : Int) (l : List E) (A : Option Addr) (c : Nat) (ky vl tm ac : Int) (w : World) :
    Calls Try.prog 27 #[.agg #[.int .i64 ky, .int .i64 vl, .int .i64 tm, .int .i64 ac], .agg #[.int .i64 3, .int .i64 n, .slice A l.length c]] w fun e_ w2 => e_ = ends (some vl) ∧ Below w.heap.size w w2 := by
  go_enter Try.func27, Try.ntmps27
  go_wp2
  go_ret
  exact ⟨rfl, below_alloc (below_alloc (Below.refl _ _) _) _⟩
theorem leaf4 (n : Int) (l : List E) (A : Option Addr) (c : Nat) (ky vl tm ac : Int) (w : World) :
    Calls Try.prog 27 #[.agg #[.int .i64 ky, .int .i64 vl, .int .i64 tm, .int .i64 ac], .agg #[.int .i64 4, .int .i64 n, .slice A l.length c]] w fun e_ w2 => e_ = ends (some tm) ∧ Below w.heap.size w w2 := by
  go_enter Try.func27, Try.ntmps27
  go_wp2
  go_ret
  exact ⟨rfl, below_alloc (below_alloc (Below.refl _ _) _) _⟩
theorem leaf5 (n : Int) (l : List E) (A : Option Addr) (c : Nat) (ky vl tm ac : Int) (w : World) :
    Calls Try.prog 27 #[.agg #[.int .i64 ky, .int .i64 vl, .int .i64 tm, .int .i64 ac], .agg #[.int .i64 5, .int .i64 n, .slice A l.length c]] w fun e_ w2 => e_ = ends (some ac) ∧ Below w.heap.size w w2 := by
  go_enter Try.func27, Try.ntmps27
  go_wp2
  go_ret
  exact ⟨rfl, below_alloc (below_alloc (Below.refl _ _) _) _⟩

theorem bne_of (q : Int) (h : q ≠ 0) : (q != 0) = true := by simpa using h
theorem value_all : ∀ d, ValAt d := by
  intro d
  induction d with
  | zero => intro e A c ky vl tm ac v w hf; exact hf.elim
  | succ d ih =>
    intro e A c ky vl tm ac v w hf hC hc hv
    obtain ⟨op, n, l⟩ := e
    subst hv
    have hk := fun i hi => kid_fits hf (i := i) hi
    obtain ⟨h1, h2, _⟩ := hf
    unfold kid at hk
    simp only at h1 h2 hk hC hc ⊢
    unfold valOf
    unfold kid
    simp only
    by_cases e1 : op = 1
    · subst e1; rw [if_pos rfl]; exact leaf1 n l A c ky vl tm ac w
    rw [if_neg e1]
    by_cases e2 : op = 2
    · subst e2; rw [if_pos rfl]; exact leaf2 n l A c ky vl tm ac w
    rw [if_neg e2]
    by_cases e3 : op = 3
    · subst e3; rw [if_pos rfl]; exact leaf3 n l A c ky vl tm ac w
    rw [if_neg e3]
    by_cases e4 : op = 4
    · subst e4; rw [if_pos rfl]; exact leaf4 n l A c ky vl tm ac w
    rw [if_neg e4]
    by_cases e5 : op = 5
    · subst e5; rw [if_pos rfl]; exact leaf5 n l A c ky vl tm ac w
    rw [if_neg e5]
    have hlen : 0 < l.length := by
      have : 1 ≤ kidsOf op := by unfold kidsOf; split; · omega
                                 split; · omega
                                 split <;> omega
      omega
    obtain ⟨ad, rfl⟩ : ∃ ad, A = some ad := by
      obtain ⟨ad, _, _, h0, _⟩ := at_T27 hC 0 (by omega) (by omega)
      exact ⟨ad, h0⟩
    have f0 := hk 0 hlen
    by_cases e14 : op = 14
    · subst e14
      rw [if_pos rfl]
      cases hv0 : valOf d ky vl tm ac (l.getD 0 z27) with
      | none => exact neg_none ih n l ad c ky vl tm ac w hC hlen _ rfl f0 hv0
      | some a => exact neg_some ih n l ad c ky vl tm ac w hC hlen _ rfl f0 a hv0
    rw [if_neg e14]
    by_cases e13 : op = 13
    · subst e13
      rw [if_pos rfl]
      have hl3 : 2 < l.length := by have : kidsOf 13 = 3 := by decide
                                    omega
      have f1 := hk 1 (by omega)
      have f2 := hk 2 (by omega)
      cases hv0 : valOf d ky vl tm ac (l.getD 0 z27) with
      | none => exact if_none ih n l ad c ky vl tm ac w hC hlen _ rfl f0 hv0
      | some q =>
        simp only [Option.bind_some]
        by_cases hq : q = 0
        · subst hq
          rw [if_pos rfl]
          cases hv2 : valOf d ky vl tm ac (l.getD 2 z27) with
          | none => exact if_else_none ih n l ad c ky vl tm ac w hC hl3 _ rfl f0 _ rfl f2 0 rfl hv0 hv2
          | some r => exact if_else ih n l ad c ky vl tm ac w hC hl3 _ rfl f0 _ rfl f2 0 rfl hv0 r hv2
        · rw [if_neg hq]
          cases hv1 : valOf d ky vl tm ac (l.getD 1 z27) with
          | none => exact if_then_none ih n l ad c ky vl tm ac w hC (by omega) _ rfl f0 _ rfl f1 q (bne_of q hq) hv0 hv1
          | some r => exact if_then ih n l ad c ky vl tm ac w hC (by omega) _ rfl f0 _ rfl f1 q (bne_of q hq) hv0 r hv1
    rw [if_neg e13]
    have hl2 : 1 < l.length := by
      have : kidsOf op = 2 := by unfold kidsOf; rw [if_neg (by omega), if_neg e13, if_neg e14]
      omega
    have f1 := hk 1 hl2
    have g1 : (op == 1) = false := beq_eq_false_iff_ne.2 e1
    have g2 : (op == 2) = false := beq_eq_false_iff_ne.2 e2
    have g3 : (op == 3) = false := beq_eq_false_iff_ne.2 e3
    have g4 : (op == 4) = false := beq_eq_false_iff_ne.2 e4
    have g5 : (op == 5) = false := beq_eq_false_iff_ne.2 e5
    have g6 : (op == 14) = false := beq_eq_false_iff_ne.2 e14
    have g7 : (op == 13) = false := beq_eq_false_iff_ne.2 e13
    cases hv0 : valOf d ky vl tm ac (l.getD 0 z27) with
    | none => exact two_none0 op g1 g2 g3 g4 g5 g6 g7 ih n l ad c ky vl tm ac w hC hlen _ rfl f0 hv0
    | some a =>
      cases hv1 : valOf d ky vl tm ac (l.getD 1 z27) with
      | none => exact two_none1 op g1 g2 g3 g4 g5 g6 g7 ih n l ad c ky vl tm ac w hC hl2 _ rfl f0 _ rfl f1 a hv0 hv1
      | some b => exact two_some op g1 g2 g3 g4 g5 g6 g7 ih n l ad c ky vl tm ac w hC hl2 _ rfl f0 _ rfl f1 a b hv0 hv1 _ rfl
end Go.Proofs.Ytpcbcekfakjgkaa.Ex
