/- The statement RecKinds. -/
import Derived.Test.YtedbgkbjbfdnlaaRp4
import Derived.Test.YtedbgkbjbfdnlaaRp5
import Derived.Test.YtedbgkbjbfdnlaaRcOp
namespace Go.Proofs.Ytedbgkbjbfdnlaa.Rc
open Go Go.RowKit Go.Proofs.YtedbgkbjbfdnlaaW.PrintWords Go.Proofs.YtedbgkbjbfdnlaaW.PrintLast Go.Proofs.YtedbgkbjbfdnlaaW.PrintMore
set_option linter.unusedVariables false
set_option linter.unusedSimpArgs false
set_option maxRecDepth 100000 in
theorem shown_ok (w : World) : Calls Try.prog 9 #[] w fun e w' => e = .returned (.bool true) ∧ Below w.heap.size w w' :=
  Rp.tidemilllaw03_shown.calls 30 true w (by decide +kernel)
theorem bit_no {x : Ent} (h : may x = true) (kk i : Nat) (hk : x.kind.toNat = kk) (hi : i < 8) (hb : (kinds.getD kk 0).testBit i = false) : x.has i = false := by
  unfold may at h
  simp only [Bool.and_eq_true, List.all_eq_true, List.mem_range] at h
  have := h.2 i hi
  rw [hk, hb] at this
  simpa using this
theorem may_kind {x : Ent} (h : may x = true) : 1 ≤ x.kind ∧ x.kind ≤ 6 := by
  unfold may may0 at h
  simp only [Bool.and_eq_true, decide_eq_true_eq] at h
  omega
set_option maxHeartbeats 4000000 in
set_option maxRecDepth 100000 in
theorem kinds_ok (k tk ep tx lg ky vl tm : Int) (dl : Bool) (l9 l10 : List Int) (A9 : Option Addr) (n9 c9 : Nat) (A10 : Option Addr) (n10 c10 : Nat) (w : World) (h9 : l9.length = n9) (h10 : l10.length = n10) (hr9 : (Kd.int .i64).C w A9 n9 l9) (hc9 : n9 ≤ c9) (hr10 : (Kd.int .i64).C w A10 n10 l10) (hc10 : n10 ≤ c10) :
    Calls Try.prog 3 #[entV ⟨k, tk, ep, tx, lg, ky, vl, tm, dl, l9, l10⟩ A9 n9 c9 A10 n10 c10] w fun e w' => e = .returned (.bool true) ∧ Below w.heap.size w w' := by
  have H9 := Aside0.mk h9
  have H10 := Aside0.mk h10
  have HC9 := Aside0.mk hr9
  have HC10 := Aside0.mk hr10
  clear h9 h10 hr9 hr10
  have HB0 := Aside0.mk (Below.refl w.heap.size w)
  obtain ⟨q, HQ⟩ : ∃ r, Aside0 (may ⟨k, tk, ep, tx, lg, ky, vl, tm, dl, l9, l10⟩ = r) := ⟨_, ⟨rfl⟩⟩
  unfold entV
  simp only
  go_enter Try.func3, Try.ntmps3
  go_upto_region 1 with fail
  replace HC9 := Aside0.mk (Kd.C_below HC9.out (below_alloc HB0.out (.cells #[.int .i64 k, .int .i64 tk, .int .i64 ep, .int .i64 tx, .int .i64 lg, .int .i64 ky, .int .i64 vl, .int .i64 tm, .bool dl, .slice A9 n9 c9, .slice A10 n10 c10] 26)))
  replace HC10 := Aside0.mk (Kd.C_below HC10.out (below_alloc HB0.out (.cells #[.int .i64 k, .int .i64 tk, .int .i64 ep, .int .i64 tx, .int .i64 lg, .int .i64 ky, .int .i64 vl, .int .i64 tm, .bool dl, .slice A9 n9 c9, .slice A10 n10 c10] 26)))
  have HB := Aside0.mk (below_alloc HB0.out (.cells #[.int .i64 k, .int .i64 tk, .int .i64 ep, .int .i64 tx, .int .i64 lg, .int .i64 ky, .int .i64 vl, .int .i64 tm, .bool dl, .slice A9 n9 c9, .slice A10 n10 c10] 26))
  have HE : Aside0 (EntAt (w.alloc (.cells #[.int .i64 k, .int .i64 tk, .int .i64 ep, .int .i64 tx, .int .i64 lg, .int .i64 ky, .int .i64 vl, .int .i64 tm, .bool dl, .slice A9 n9 c9, .slice A10 n10 c10] 26)) w.heap.size ⟨k, tk, ep, tx, lg, ky, vl, tm, dl, l9, l10⟩ A9 n9 c9 A10 n10 c10) :=
    ⟨⟨cell_new _ _ _ _ _ rfl, cell_new _ _ _ _ _ rfl, cell_new _ _ _ _ _ rfl, cell_new _ _ _ _ _ rfl, cell_new _ _ _ _ _ rfl, cell_new _ _ _ _ _ rfl, cell_new _ _ _ _ _ rfl, cell_new _ _ _ _ _ rfl, cell_new _ _ _ _ _ rfl, cell_new _ _ _ _ _ rfl, cell_new _ _ _ _ _ rfl⟩⟩
  generalize hw0 : w.alloc (.cells #[.int .i64 k, .int .i64 tk, .int .i64 ep, .int .i64 tx, .int .i64 lg, .int .i64 ky, .int .i64 vl, .int .i64 tm, .bool dl, .slice A9 n9 c9, .slice A10 n10 c10] 26) = w0 at *
  have HBN := Aside0.mk (show w.heap.size < w0.heap.size by rw [← hw0]; simp)
  clear hw0
  go_wp2_with fail
  refine (shown_ok _).mono ?_
  rintro e w2 ⟨rfl, hb_⟩
  have n0_ := Aside0.mk (below_step HB.out hb_); have n1_ := Aside0.mk (HE.out.below hb_); have n2_ := Aside0.mk (Kd.C_below HC9.out hb_); have n3_ := Aside0.mk (Kd.C_below HC10.out hb_); clear HB; clear HE; clear HC9; clear HC10; have HB := n0_; have HE := n1_; have HC9 := n2_; have HC10 := n3_; clear n0_ n1_ n2_ n3_; clear hb_
  obtain ⟨e0, e1, e2, e3, e4, e5, e6, e7, e8, e9, e10⟩ := HE.out; simp only at e0 e1 e2 e3 e4 e5 e6 e7 e8 e9 e10
  go_wp2_with fail
  refine (may_any k tk ep tx lg ky vl tm dl l9 l10 A9 n9 c9 A10 n10 c10 _ H9.out H10.out HC9.out hc9 HC10.out hc10).mono ?_
  rintro e w3 ⟨he_, hb_⟩
  rw [HQ.out] at he_
  subst he_
  clear e0 e1 e2 e3 e4 e5 e6 e7 e8 e9 e10
  have n0_ := Aside0.mk (below_step HB.out hb_); have n1_ := Aside0.mk (HE.out.below hb_); have n2_ := Aside0.mk (Kd.C_below HC9.out hb_); have n3_ := Aside0.mk (Kd.C_below HC10.out hb_); clear HB; clear HE; clear HC9; clear HC10; have HB := n0_; have HE := n1_; have HC9 := n2_; have HC10 := n3_; clear n0_ n1_ n2_ n3_; clear hb_
  cases q with
  | false =>
    go_wp2
    go_ret
    exact ⟨rfl, HB.out⟩
  | true =>
  have hk := may_kind HQ.out
  simp only at hk
  obtain rfl | rfl | rfl | rfl | rfl | rfl : k = 1 ∨ k = 2 ∨ k = 3 ∨ k = 4 ∨ k = 5 ∨ k = 6 := by omega
  · have HM := HQ.out
    have z0 : tk = 0 := by simpa [Ent.has] using bit_no HM 1 0 rfl (by decide) (by decide)
    have z1 : ep = 0 := by simpa [Ent.has] using bit_no HM 1 1 rfl (by decide) (by decide)
    have z2 : tx = 0 := by simpa [Ent.has] using bit_no HM 1 2 rfl (by decide) (by decide)
    have z5 : dl = false := by simpa [Ent.has] using bit_no HM 1 5 rfl (by decide) (by decide)
    have z6 : l9 = [] := by simpa [Ent.has] using bit_no HM 1 6 rfl (by decide) (by decide)
    have z7 : l10 = [] := by simpa [Ent.has] using bit_no HM 1 7 rfl (by decide) (by decide)
    subst z0
    subst z1
    subst z2
    subst z5
    subst z6
    obtain rfl : 0 = n9 := H9.out
    subst z7
    obtain rfl : 0 = n10 := H10.out
    clear HM HQ
    obtain ⟨e0, e1, e2, e3, e4, e5, e6, e7, e8, e9, e10⟩ := HE.out; simp only at e0 e1 e2 e3 e4 e5 e6 e7 e8 e9 e10
    go_upto_region 8 with fail
    clear e0 e1 e2 e3 e4 e5 e6 e7 e8 e9 e10
    have HF : Aside0 (EntAt (w3.alloc (.cells #[.int .i64 6, .int .i64 0, .int .i64 0, .int .i64 0, .int .i64 0, .int .i64 0, .int .i64 0, .int .i64 0, .bool false, .slice none 0 0, .slice none 0 0] 26)) w3.heap.size ⟨6, 0, 0, 0, 0, 0, 0, 0, false, [], []⟩ none 0 0 none 0 0) := ⟨⟨cell_new _ _ _ _ _ rfl, cell_new _ _ _ _ _ rfl, cell_new _ _ _ _ _ rfl, cell_new _ _ _ _ _ rfl, cell_new _ _ _ _ _ rfl, cell_new _ _ _ _ _ rfl, cell_new _ _ _ _ _ rfl, cell_new _ _ _ _ _ rfl, cell_new _ _ _ _ _ rfl, cell_new _ _ _ _ _ rfl, cell_new _ _ _ _ _ rfl⟩⟩
    have hb_ := below_alloc (Below.refl w3.heap.size w3) (.cells #[.int .i64 6, .int .i64 0, .int .i64 0, .int .i64 0, .int .i64 0, .int .i64 0, .int .i64 0, .int .i64 0, .bool false, .slice none 0 0, .slice none 0 0] 26)
    generalize w3.alloc (.cells #[.int .i64 6, .int .i64 0, .int .i64 0, .int .i64 0, .int .i64 0, .int .i64 0, .int .i64 0, .int .i64 0, .bool false, .slice none 0 0, .slice none 0 0] 26) = w4 at HF hb_ ⊢
    skip
    have n0_ := Aside0.mk (below_step HB.out hb_); have n1_ := Aside0.mk (HE.out.below hb_); have n2_ := Aside0.mk (Kd.C_below HC9.out hb_); have n3_ := Aside0.mk (Kd.C_below HC10.out hb_); clear HB; clear HE; clear HC9; clear HC10; have HB := n0_; have HE := n1_; have HC9 := n2_; have HC10 := n3_; clear n0_ n1_ n2_ n3_; clear hb_
    obtain ⟨e0, e1, e2, e3, e4, e5, e6, e7, e8, e9, e10⟩ := HE.out; simp only at e0 e1 e2 e3 e4 e5 e6 e7 e8 e9 e10
    obtain ⟨f0, f1, f2, f3, f4, f5, f6, f7, f8, f9, f10⟩ := HF.out; simp only at f0 f1 f2 f3 f4 f5 f6 f7 f8 f9 f10
    go_wp2
    go_ret
    exact ⟨rfl, HB.out⟩
  · have HM := HQ.out
    have z6 : l9 = [] := by simpa [Ent.has] using bit_no HM 2 6 rfl (by decide) (by decide)
    have z7 : l10 = [] := by simpa [Ent.has] using bit_no HM 2 7 rfl (by decide) (by decide)
    subst z6
    obtain rfl : 0 = n9 := H9.out
    subst z7
    obtain rfl : 0 = n10 := H10.out
    clear HM HQ
    obtain ⟨e0, e1, e2, e3, e4, e5, e6, e7, e8, e9, e10⟩ := HE.out; simp only at e0 e1 e2 e3 e4 e5 e6 e7 e8 e9 e10
    go_upto_region 8 with fail
    clear e0 e1 e2 e3 e4 e5 e6 e7 e8 e9 e10
    have HF : Aside0 (EntAt (w3.alloc (.cells #[.int .i64 6, .int .i64 0, .int .i64 0, .int .i64 0, .int .i64 0, .int .i64 0, .int .i64 0, .int .i64 0, .bool false, .slice none 0 0, .slice none 0 0] 26)) w3.heap.size ⟨6, 0, 0, 0, 0, 0, 0, 0, false, [], []⟩ none 0 0 none 0 0) := ⟨⟨cell_new _ _ _ _ _ rfl, cell_new _ _ _ _ _ rfl, cell_new _ _ _ _ _ rfl, cell_new _ _ _ _ _ rfl, cell_new _ _ _ _ _ rfl, cell_new _ _ _ _ _ rfl, cell_new _ _ _ _ _ rfl, cell_new _ _ _ _ _ rfl, cell_new _ _ _ _ _ rfl, cell_new _ _ _ _ _ rfl, cell_new _ _ _ _ _ rfl⟩⟩
    have hb_ := below_alloc (Below.refl w3.heap.size w3) (.cells #[.int .i64 6, .int .i64 0, .int .i64 0, .int .i64 0, .int .i64 0, .int .i64 0, .int .i64 0, .int .i64 0, .bool false, .slice none 0 0, .slice none 0 0] 26)
    generalize w3.alloc (.cells #[.int .i64 6, .int .i64 0, .int .i64 0, .int .i64 0, .int .i64 0, .int .i64 0, .int .i64 0, .int .i64 0, .bool false, .slice none 0 0, .slice none 0 0] 26) = w4 at HF hb_ ⊢
    skip
    have n0_ := Aside0.mk (below_step HB.out hb_); have n1_ := Aside0.mk (HE.out.below hb_); have n2_ := Aside0.mk (Kd.C_below HC9.out hb_); have n3_ := Aside0.mk (Kd.C_below HC10.out hb_); clear HB; clear HE; clear HC9; clear HC10; have HB := n0_; have HE := n1_; have HC9 := n2_; have HC10 := n3_; clear n0_ n1_ n2_ n3_; clear hb_
    obtain ⟨e0, e1, e2, e3, e4, e5, e6, e7, e8, e9, e10⟩ := HE.out; simp only at e0 e1 e2 e3 e4 e5 e6 e7 e8 e9 e10
    obtain ⟨f0, f1, f2, f3, f4, f5, f6, f7, f8, f9, f10⟩ := HF.out; simp only at f0 f1 f2 f3 f4 f5 f6 f7 f8 f9 f10
    go_wp2
    go_ret
    exact ⟨rfl, HB.out⟩
  · have HM := HQ.out
    have z3 : lg = 0 := by simpa [Ent.has] using bit_no HM 3 3 rfl (by decide) (by decide)
    have z4 : ky = 0 ∧ vl = 0 ∧ tm = 0 := by simpa [Ent.has] using bit_no HM 3 4 rfl (by decide) (by decide)
    have z5 : dl = false := by simpa [Ent.has] using bit_no HM 3 5 rfl (by decide) (by decide)
    subst z3
    obtain ⟨rfl, rfl, rfl⟩ := z4
    subst z5
    clear HM HQ
    obtain ⟨e0, e1, e2, e3, e4, e5, e6, e7, e8, e9, e10⟩ := HE.out; simp only at e0 e1 e2 e3 e4 e5 e6 e7 e8 e9 e10
    go_upto_region 8 with fail
    clear e0 e1 e2 e3 e4 e5 e6 e7 e8 e9 e10
    have HF : Aside0 (EntAt (w3.alloc (.cells #[.int .i64 6, .int .i64 0, .int .i64 0, .int .i64 0, .int .i64 0, .int .i64 0, .int .i64 0, .int .i64 0, .bool false, .slice none 0 0, .slice none 0 0] 26)) w3.heap.size ⟨6, 0, 0, 0, 0, 0, 0, 0, false, [], []⟩ none 0 0 none 0 0) := ⟨⟨cell_new _ _ _ _ _ rfl, cell_new _ _ _ _ _ rfl, cell_new _ _ _ _ _ rfl, cell_new _ _ _ _ _ rfl, cell_new _ _ _ _ _ rfl, cell_new _ _ _ _ _ rfl, cell_new _ _ _ _ _ rfl, cell_new _ _ _ _ _ rfl, cell_new _ _ _ _ _ rfl, cell_new _ _ _ _ _ rfl, cell_new _ _ _ _ _ rfl⟩⟩
    have hb_ := below_alloc (Below.refl w3.heap.size w3) (.cells #[.int .i64 6, .int .i64 0, .int .i64 0, .int .i64 0, .int .i64 0, .int .i64 0, .int .i64 0, .int .i64 0, .bool false, .slice none 0 0, .slice none 0 0] 26)
    generalize w3.alloc (.cells #[.int .i64 6, .int .i64 0, .int .i64 0, .int .i64 0, .int .i64 0, .int .i64 0, .int .i64 0, .int .i64 0, .bool false, .slice none 0 0, .slice none 0 0] 26) = w4 at HF hb_ ⊢
    skip
    have n0_ := Aside0.mk (below_step HB.out hb_); have n1_ := Aside0.mk (HE.out.below hb_); have n2_ := Aside0.mk (Kd.C_below HC9.out hb_); have n3_ := Aside0.mk (Kd.C_below HC10.out hb_); clear HB; clear HE; clear HC9; clear HC10; have HB := n0_; have HE := n1_; have HC9 := n2_; have HC10 := n3_; clear n0_ n1_ n2_ n3_; clear hb_
    obtain ⟨e0, e1, e2, e3, e4, e5, e6, e7, e8, e9, e10⟩ := HE.out; simp only at e0 e1 e2 e3 e4 e5 e6 e7 e8 e9 e10
    obtain ⟨f0, f1, f2, f3, f4, f5, f6, f7, f8, f9, f10⟩ := HF.out; simp only at f0 f1 f2 f3 f4 f5 f6 f7 f8 f9 f10
    go_wp2
    go_ret
    exact ⟨rfl, HB.out⟩
  · have HM := HQ.out
    have z3 : lg = 0 := by simpa [Ent.has] using bit_no HM 4 3 rfl (by decide) (by decide)
    have z4 : ky = 0 ∧ vl = 0 ∧ tm = 0 := by simpa [Ent.has] using bit_no HM 4 4 rfl (by decide) (by decide)
    have z5 : dl = false := by simpa [Ent.has] using bit_no HM 4 5 rfl (by decide) (by decide)
    have z6 : l9 = [] := by simpa [Ent.has] using bit_no HM 4 6 rfl (by decide) (by decide)
    have z7 : l10 = [] := by simpa [Ent.has] using bit_no HM 4 7 rfl (by decide) (by decide)
    subst z3
    obtain ⟨rfl, rfl, rfl⟩ := z4
    subst z5
    subst z6
    obtain rfl : 0 = n9 := H9.out
    subst z7
    obtain rfl : 0 = n10 := H10.out
    clear HM HQ
    obtain ⟨e0, e1, e2, e3, e4, e5, e6, e7, e8, e9, e10⟩ := HE.out; simp only at e0 e1 e2 e3 e4 e5 e6 e7 e8 e9 e10
    go_upto_region 8 with fail
    clear e0 e1 e2 e3 e4 e5 e6 e7 e8 e9 e10
    have HF : Aside0 (EntAt (w3.alloc (.cells #[.int .i64 6, .int .i64 0, .int .i64 0, .int .i64 0, .int .i64 0, .int .i64 0, .int .i64 0, .int .i64 0, .bool false, .slice none 0 0, .slice none 0 0] 26)) w3.heap.size ⟨6, 0, 0, 0, 0, 0, 0, 0, false, [], []⟩ none 0 0 none 0 0) := ⟨⟨cell_new _ _ _ _ _ rfl, cell_new _ _ _ _ _ rfl, cell_new _ _ _ _ _ rfl, cell_new _ _ _ _ _ rfl, cell_new _ _ _ _ _ rfl, cell_new _ _ _ _ _ rfl, cell_new _ _ _ _ _ rfl, cell_new _ _ _ _ _ rfl, cell_new _ _ _ _ _ rfl, cell_new _ _ _ _ _ rfl, cell_new _ _ _ _ _ rfl⟩⟩
    have hb_ := below_alloc (Below.refl w3.heap.size w3) (.cells #[.int .i64 6, .int .i64 0, .int .i64 0, .int .i64 0, .int .i64 0, .int .i64 0, .int .i64 0, .int .i64 0, .bool false, .slice none 0 0, .slice none 0 0] 26)
    generalize w3.alloc (.cells #[.int .i64 6, .int .i64 0, .int .i64 0, .int .i64 0, .int .i64 0, .int .i64 0, .int .i64 0, .int .i64 0, .bool false, .slice none 0 0, .slice none 0 0] 26) = w4 at HF hb_ ⊢
    skip
    have n0_ := Aside0.mk (below_step HB.out hb_); have n1_ := Aside0.mk (HE.out.below hb_); have n2_ := Aside0.mk (Kd.C_below HC9.out hb_); have n3_ := Aside0.mk (Kd.C_below HC10.out hb_); clear HB; clear HE; clear HC9; clear HC10; have HB := n0_; have HE := n1_; have HC9 := n2_; have HC10 := n3_; clear n0_ n1_ n2_ n3_; clear hb_
    obtain ⟨e0, e1, e2, e3, e4, e5, e6, e7, e8, e9, e10⟩ := HE.out; simp only at e0 e1 e2 e3 e4 e5 e6 e7 e8 e9 e10
    obtain ⟨f0, f1, f2, f3, f4, f5, f6, f7, f8, f9, f10⟩ := HF.out; simp only at f0 f1 f2 f3 f4 f5 f6 f7 f8 f9 f10
    go_wp2
    go_ret
    exact ⟨rfl, HB.out⟩
  · have HM := HQ.out
    have z2 : tx = 0 := by simpa [Ent.has] using bit_no HM 5 2 rfl (by decide) (by decide)
    have z3 : lg = 0 := by simpa [Ent.has] using bit_no HM 5 3 rfl (by decide) (by decide)
    have z4 : ky = 0 ∧ vl = 0 ∧ tm = 0 := by simpa [Ent.has] using bit_no HM 5 4 rfl (by decide) (by decide)
    have z5 : dl = false := by simpa [Ent.has] using bit_no HM 5 5 rfl (by decide) (by decide)
    have z6 : l9 = [] := by simpa [Ent.has] using bit_no HM 5 6 rfl (by decide) (by decide)
    have z7 : l10 = [] := by simpa [Ent.has] using bit_no HM 5 7 rfl (by decide) (by decide)
    subst z2
    subst z3
    obtain ⟨rfl, rfl, rfl⟩ := z4
    subst z5
    subst z6
    obtain rfl : 0 = n9 := H9.out
    subst z7
    obtain rfl : 0 = n10 := H10.out
    clear HM HQ
    obtain ⟨e0, e1, e2, e3, e4, e5, e6, e7, e8, e9, e10⟩ := HE.out; simp only at e0 e1 e2 e3 e4 e5 e6 e7 e8 e9 e10
    go_upto_region 8 with fail
    clear e0 e1 e2 e3 e4 e5 e6 e7 e8 e9 e10
    have HF : Aside0 (EntAt (w3.alloc (.cells #[.int .i64 6, .int .i64 0, .int .i64 0, .int .i64 0, .int .i64 0, .int .i64 0, .int .i64 0, .int .i64 0, .bool false, .slice none 0 0, .slice none 0 0] 26)) w3.heap.size ⟨6, 0, 0, 0, 0, 0, 0, 0, false, [], []⟩ none 0 0 none 0 0) := ⟨⟨cell_new _ _ _ _ _ rfl, cell_new _ _ _ _ _ rfl, cell_new _ _ _ _ _ rfl, cell_new _ _ _ _ _ rfl, cell_new _ _ _ _ _ rfl, cell_new _ _ _ _ _ rfl, cell_new _ _ _ _ _ rfl, cell_new _ _ _ _ _ rfl, cell_new _ _ _ _ _ rfl, cell_new _ _ _ _ _ rfl, cell_new _ _ _ _ _ rfl⟩⟩
    have hb_ := below_alloc (Below.refl w3.heap.size w3) (.cells #[.int .i64 6, .int .i64 0, .int .i64 0, .int .i64 0, .int .i64 0, .int .i64 0, .int .i64 0, .int .i64 0, .bool false, .slice none 0 0, .slice none 0 0] 26)
    generalize w3.alloc (.cells #[.int .i64 6, .int .i64 0, .int .i64 0, .int .i64 0, .int .i64 0, .int .i64 0, .int .i64 0, .int .i64 0, .bool false, .slice none 0 0, .slice none 0 0] 26) = w4 at HF hb_ ⊢
    skip
    have n0_ := Aside0.mk (below_step HB.out hb_); have n1_ := Aside0.mk (HE.out.below hb_); have n2_ := Aside0.mk (Kd.C_below HC9.out hb_); have n3_ := Aside0.mk (Kd.C_below HC10.out hb_); clear HB; clear HE; clear HC9; clear HC10; have HB := n0_; have HE := n1_; have HC9 := n2_; have HC10 := n3_; clear n0_ n1_ n2_ n3_; clear hb_
    obtain ⟨e0, e1, e2, e3, e4, e5, e6, e7, e8, e9, e10⟩ := HE.out; simp only at e0 e1 e2 e3 e4 e5 e6 e7 e8 e9 e10
    obtain ⟨f0, f1, f2, f3, f4, f5, f6, f7, f8, f9, f10⟩ := HF.out; simp only at f0 f1 f2 f3 f4 f5 f6 f7 f8 f9 f10
    go_wp2
    go_ret
    exact ⟨rfl, HB.out⟩
  · have HM := HQ.out
    have z0 : tk = 0 := by simpa [Ent.has] using bit_no HM 6 0 rfl (by decide) (by decide)
    have z1 : ep = 0 := by simpa [Ent.has] using bit_no HM 6 1 rfl (by decide) (by decide)
    have z2 : tx = 0 := by simpa [Ent.has] using bit_no HM 6 2 rfl (by decide) (by decide)
    have z3 : lg = 0 := by simpa [Ent.has] using bit_no HM 6 3 rfl (by decide) (by decide)
    have z4 : ky = 0 ∧ vl = 0 ∧ tm = 0 := by simpa [Ent.has] using bit_no HM 6 4 rfl (by decide) (by decide)
    have z5 : dl = false := by simpa [Ent.has] using bit_no HM 6 5 rfl (by decide) (by decide)
    have z6 : l9 = [] := by simpa [Ent.has] using bit_no HM 6 6 rfl (by decide) (by decide)
    have z7 : l10 = [] := by simpa [Ent.has] using bit_no HM 6 7 rfl (by decide) (by decide)
    subst z0
    subst z1
    subst z2
    subst z3
    obtain ⟨rfl, rfl, rfl⟩ := z4
    subst z5
    subst z6
    obtain rfl : 0 = n9 := H9.out
    subst z7
    obtain rfl : 0 = n10 := H10.out
    clear HM HQ
    obtain ⟨e0, e1, e2, e3, e4, e5, e6, e7, e8, e9, e10⟩ := HE.out; simp only at e0 e1 e2 e3 e4 e5 e6 e7 e8 e9 e10
    go_upto_region 8 with fail
    clear e0 e1 e2 e3 e4 e5 e6 e7 e8 e9 e10
    have HF : Aside0 (EntAt (w3.alloc (.cells #[.int .i64 6, .int .i64 0, .int .i64 0, .int .i64 0, .int .i64 0, .int .i64 0, .int .i64 0, .int .i64 0, .bool false, .slice none 0 0, .slice none 0 0] 26)) w3.heap.size ⟨6, 0, 0, 0, 0, 0, 0, 0, false, [], []⟩ none 0 0 none 0 0) := ⟨⟨cell_new _ _ _ _ _ rfl, cell_new _ _ _ _ _ rfl, cell_new _ _ _ _ _ rfl, cell_new _ _ _ _ _ rfl, cell_new _ _ _ _ _ rfl, cell_new _ _ _ _ _ rfl, cell_new _ _ _ _ _ rfl, cell_new _ _ _ _ _ rfl, cell_new _ _ _ _ _ rfl, cell_new _ _ _ _ _ rfl, cell_new _ _ _ _ _ rfl⟩⟩
    have hb_ := below_alloc (Below.refl w3.heap.size w3) (.cells #[.int .i64 6, .int .i64 0, .int .i64 0, .int .i64 0, .int .i64 0, .int .i64 0, .int .i64 0, .int .i64 0, .bool false, .slice none 0 0, .slice none 0 0] 26)
    generalize w3.alloc (.cells #[.int .i64 6, .int .i64 0, .int .i64 0, .int .i64 0, .int .i64 0, .int .i64 0, .int .i64 0, .int .i64 0, .bool false, .slice none 0 0, .slice none 0 0] 26) = w4 at HF hb_ ⊢
    skip
    have n0_ := Aside0.mk (below_step HB.out hb_); have n1_ := Aside0.mk (HE.out.below hb_); have n2_ := Aside0.mk (Kd.C_below HC9.out hb_); have n3_ := Aside0.mk (Kd.C_below HC10.out hb_); clear HB; clear HE; clear HC9; clear HC10; have HB := n0_; have HE := n1_; have HC9 := n2_; have HC10 := n3_; clear n0_ n1_ n2_ n3_; clear hb_
    obtain ⟨e0, e1, e2, e3, e4, e5, e6, e7, e8, e9, e10⟩ := HE.out; simp only at e0 e1 e2 e3 e4 e5 e6 e7 e8 e9 e10
    obtain ⟨f0, f1, f2, f3, f4, f5, f6, f7, f8, f9, f10⟩ := HF.out; simp only at f0 f1 f2 f3 f4 f5 f6 f7 f8 f9 f10
    go_wp2_with fail
    refine (Rp.tidemillref03_Same.calls 1 6 0 0 0 0 0 0 0 false A9 c9 [] A10 c10 [] 6 0 0 0 0 0 0 0 false none 0 [] none 0 [] true _ HC9.out hc9 HC10.out hc10 (Kd.C_nil _ _) (Nat.le_refl _) (Kd.C_nil _ _) (Nat.le_refl _) (by decide +kernel)).mono ?_
    rintro e w5 ⟨rfl, hb_⟩
    clear e0 e1 e2 e3 e4 e5 e6 e7 e8 e9 e10 f0 f1 f2 f3 f4 f5 f6 f7 f8 f9 f10
    have n0_ := Aside0.mk (below_step HB.out hb_); have n1_ := Aside0.mk (HE.out.below hb_); clear HB; clear HE; have HB := n0_; have HE := n1_; clear n0_ n1_; clear hb_
    obtain ⟨e0, e1, e2, e3, e4, e5, e6, e7, e8, e9, e10⟩ := HE.out; simp only at e0 e1 e2 e3 e4 e5 e6 e7 e8 e9 e10
    go_wp2
    go_ret
    exact ⟨rfl, HB.out⟩
end Go.Proofs.Ytedbgkbjbfdnlaa.Rc
