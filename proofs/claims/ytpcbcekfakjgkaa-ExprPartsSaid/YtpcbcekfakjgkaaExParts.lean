/- The statement ExprParts. -/
import Derived.Test.YtpcbcekfakjgkaaExShown
import Derived.Test.YtpcbcekfakjgkaaExRef
import Derived.Test.YtpcbcekfakjgkaaOpE
namespace Go.Proofs.Ytpcbcekfakjgkaa.Ex
open Go Go.RowKit Go.Proofs.YtpcbcekfakjgkaaW.PrintWords Go.Proofs.YtpcbcekfakjgkaaW.PrintLast Go.Proofs.YtpcbcekfakjgkaaW.PrintMore Go.Proofs.Ytpcbcekfakjgkaa.Mono
set_option linter.unusedVariables false
set_option linter.unusedSimpArgs false
def aE : E := ⟨5, 0, []⟩
def qE : E := opE 6 (opE 8 (opE 9 vE aE) aE) (opE 10 vE aE)
def mE : E := opE 6 (opE 7 vE aE) aE
def sE : E := opE 7 (opE 15 vE aE) vE
def tE : E := opE 7 aE (opE 16 vE aE)
theorem val_v (d : Nat) (ky vl tm ac : Int) : valOf (d + 1) ky vl tm ac vE = some vl := by simp [valOf, vE]
theorem val_a (d : Nat) (ky vl tm ac : Int) : valOf (d + 1) ky vl tm ac aE = some ac := by simp [valOf, aE]
theorem val_op (d : Nat) (ky vl tm ac op : Int) (x y : E) (h : op ≠ 1 ∧ op ≠ 2 ∧ op ≠ 3 ∧ op ≠ 4 ∧ op ≠ 5 ∧ op ≠ 13 ∧ op ≠ 14) : valOf (d + 1) ky vl tm ac (opE op x y) = (valOf d ky vl tm ac x).bind fun a => (valOf d ky vl tm ac y).bind fun b => twoOf op a b := by
  obtain ⟨h1, h2, h3, h4, h5, h6, h7⟩ := h
  rw [valOf]
  simp [opE, kid, h1, h2, h3, h4, h5, h6, h7]
theorem may_q : mayB qE = true := by decide +kernel
theorem may_m : mayB mE = true := by decide +kernel
theorem may_s : mayB sE = true := by decide +kernel
theorem may_t : mayB tE = true := by decide +kernel
theorem eval_m (a b : Int) (ha : I64 a) : evalOf mE 0 a 0 b = (a, 0) := by
  unfold evalOf
  rw [if_pos may_m, mE, val_op 15 _ _ _ _ _ _ _ (by decide), val_op 14 _ _ _ _ _ _ _ (by decide), val_v 13, val_a 13, val_a 14]
  simp only [Option.bind_some, twoOf]
  simp only [show ¬ (7 : Int) = 6 by decide, if_false, if_true]
  unfold I64 at ha
  have : wrap64 (wrap64 (a - b) + b) = a := by unfold wrap64; omega
  simp [this]
theorem eval_q0 (a : Int) : evalOf qE 0 a 0 0 = (0, 10) := by
  unfold evalOf
  rw [if_pos may_q, qE, val_op 15 _ _ _ _ _ _ _ (by decide), val_op 14 _ _ _ _ _ _ _ (by decide), val_op 13 _ _ _ _ _ _ _ (by decide), val_v 12, val_a 12]
  simp [twoOf]
theorem quo_rest {a b : Int} (ha : I64 a) (hb : I64 b) (h0 : b ≠ 0) : wrap64 (wrap64 (wrap64 (a.tdiv b) * b) + a.tmod b) = a := by
  have h := mod_ref ha hb h0
  unfold I64 at ha
  generalize wrap64 (wrap64 (a.tdiv b) * b) = p at h ⊢
  rw [← h]
  unfold wrap64
  omega
theorem eval_q (a b : Int) (ha : I64 a) (hb : I64 b) (h0 : b ≠ 0) : evalOf qE 0 a 0 b = (a, 0) := by
  unfold evalOf
  rw [if_pos may_q, qE, val_op 15 _ _ _ _ _ _ _ (by decide), val_op 14 _ _ _ _ _ _ _ (by decide), val_op 14 _ _ _ _ _ _ _ (by decide), val_op 13 _ _ _ _ _ _ _ (by decide), val_v 12, val_a 12, val_a 13, val_v 13]
  have h1 : twoOf 9 a b = some (wrap64 (a.tdiv b)) := by simp [twoOf, h0]
  have h2 : twoOf 10 a b = some (a.tmod b) := by simp [twoOf, h0]
  simp only [Option.bind_some, h1, h2]
  have h3 : ∀ x y, twoOf 8 x y = some (wrap64 (x * y)) := fun x y => by simp [twoOf]
  have h4 : ∀ x y, twoOf 6 x y = some (wrap64 (x + y)) := fun x y => by simp [twoOf]
  simp only [h3, h4, Option.bind_some, quo_rest ha hb h0]
theorem eval_s (a b : Int) : evalOf sE 0 a 0 b = (wrap64 (mn a b - a), 0) := by
  unfold evalOf
  rw [if_pos may_s, sE, val_op 15 _ _ _ _ _ _ _ (by decide), val_op 14 _ _ _ _ _ _ _ (by decide), val_v 13, val_a 13, val_v 14]
  simp [twoOf]
theorem eval_t (a b : Int) : evalOf tE 0 a 0 b = (wrap64 (mn a b - a), 0) := by
  unfold evalOf
  rw [if_pos may_t, tE, val_op 15 _ _ _ _ _ _ _ (by decide), val_op 14 _ _ _ _ _ _ _ (by decide), val_v 13, val_a 13, val_a 14]
  have : b - mx a b = mn a b - a := by unfold mn mx; split <;> split <;> omega
  simp [twoOf, this]
/-- The frame's three variables. -/
structure Pa (w0 w : World) (g : Nat) (a : Int) : Prop where
  b1 : w.heap[g]? = some (.cells #[.int .i64 0, .int .i64 a, .int .i64 0] 24 (0, 0))
  b2 : w.heap[g + 1]? = some (.cells #[.int .i64 3, .int .i64 0, .slice none 0 0] 27 (0, 0))
  b3 : w.heap[g + 1 + 1]? = some (.cells #[.int .i64 5, .int .i64 0, .slice none 0 0] 27 (0, 0))
  bl : Below w0.heap.size w0 w
theorem Pa.step {w0 w w2 : World} {g : Nat} {a : Int} (h : Pa w0 w g a) (hb : Below w.heap.size w w2) : Pa w0 w2 g a := ⟨blk_below h.b1 hb, blk_below h.b2 hb, blk_below h.b3 hb, below_step h.bl hb⟩
theorem Pa.c1 {w0 w : World} {g : Nat} {a : Int} (h : Pa w0 w g a) : w.cell? ⟨g, 0, none⟩ = some (.int .i64 0) ∧ w.cell? ⟨g, 1, none⟩ = some (.int .i64 a) ∧ w.cell? ⟨g, 2, none⟩ = some (.int .i64 0) :=
  ⟨(blk_cell h.b1 0).trans rfl, (blk_cell h.b1 1).trans rfl, (blk_cell h.b1 2).trans rfl⟩
theorem Pa.c2 {w0 w : World} {g : Nat} {a : Int} (h : Pa w0 w g a) : w.cell? ⟨g + 1, 0, none⟩ = some (.int .i64 3) ∧ w.cell? ⟨g + 1, 1, none⟩ = some (.int .i64 0) ∧ w.cell? ⟨g + 1, 2, none⟩ = some (.slice none 0 0) :=
  ⟨(blk_cell h.b2 0).trans rfl, (blk_cell h.b2 1).trans rfl, (blk_cell h.b2 2).trans rfl⟩
theorem Pa.c3 {w0 w : World} {g : Nat} {a : Int} (h : Pa w0 w g a) : w.cell? ⟨g + 1 + 1, 0, none⟩ = some (.int .i64 5) ∧ w.cell? ⟨g + 1 + 1, 1, none⟩ = some (.int .i64 0) ∧ w.cell? ⟨g + 1 + 1, 2, none⟩ = some (.slice none 0 0) :=
  ⟨(blk_cell h.b3 0).trans rfl, (blk_cell h.b3 1).trans rfl, (blk_cell h.b3 2).trans rfl⟩
theorem Pa.lt {w0 w : World} {g : Nat} {a : Int} (h : Pa w0 w g a) : g + 1 + 1 < w.heap.size := (Array.getElem?_eq_some_iff.1 h.b3).1
theorem Pa.set_ {w0 w : World} {g : Nat} {a : Int} (h : Pa w0 w g a) {g2 : Nat} (hg : g + 1 + 1 < g2) (h0 : w0.heap.size ≤ g2) (j : Nat) (u : Value) : Pa w0 (w.setCell ⟨g2, j, none⟩ u) g a :=
  ⟨blk_far h.b1 (by show g ≠ g2; omega) u, blk_far h.b2 (by show g + 1 ≠ g2; omega) u, blk_far h.b3 (by show g + 1 + 1 ≠ g2; omega) u, below_set h.bl h0⟩
set_option maxHeartbeats 4000000 in
set_option maxRecDepth 100000 in
theorem parts_ok (a b : Int) (w : World) (ha : I64 a) (hb : I64 b) : Calls Try.prog 3 #[.int .i64 a, .int .i64 b] w fun e w' => e = .returned (.bool true) ∧ Below w.heap.size w w' := by
  have HB := Aside0.mk (Below.refl w.heap.size w)
  have HIA := Aside0.mk ha
  have HIB := Aside0.mk hb
  clear ha hb
  go_enter Try.func3, Try.ntmps3
  go_wp2_with fail
  refine (tidemilllaw04_shown.calls true _ rfl).mono ?_
  rintro e w1 ⟨rfl, hb_⟩
  replace HB := Aside0.mk (below_step HB.out hb_)
  clear hb_
  go_upto_region 5 with fail
  have HP : Aside0 (Pa w (((w1.alloc (.cells #[.int .i64 0, .int .i64 a, .int .i64 0] 24)).alloc (.cells #[.int .i64 3, .int .i64 0, .slice none 0 0] 27)).alloc (.cells #[.int .i64 5, .int .i64 0, .slice none 0 0] 27)) w1.heap.size a) := by
    have e1 : (w1.alloc (.cells #[.int .i64 0, .int .i64 a, .int .i64 0] 24)).heap.size = w1.heap.size + 1 := by simp
    have e2 : ((w1.alloc (.cells #[.int .i64 0, .int .i64 a, .int .i64 0] 24)).alloc (.cells #[.int .i64 3, .int .i64 0, .slice none 0 0] 27)).heap.size = w1.heap.size + 1 + 1 := by simp
    refine ⟨⟨blk_alloc (blk_alloc (blk_new _ _) _) _, ?_, ?_, below_alloc (below_alloc (below_alloc HB.out _) _) _⟩⟩
    · rw [← e1]; exact blk_alloc (blk_new _ _) _
    · rw [← e2]; exact blk_new _ _
  generalize ((w1.alloc (.cells #[.int .i64 0, .int .i64 a, .int .i64 0] 24)).alloc (.cells #[.int .i64 3, .int .i64 0, .slice none 0 0] 27)).alloc (.cells #[.int .i64 5, .int .i64 0, .slice none 0 0] 27) = w2 at HP ⊢
  clear HB
  generalize w1.heap.size = g at HP ⊢
  refine start_ (n := 11) (S := fun w' => Below w2.heap.size w2 w') (ds := []) #[false, false, false, false, false, false, false, false, false, false, false] (by kernel_rfl) rfl rfl (below_drew (Below.refl _ _)) (fun hHeld => ?_)
  refine take_ (i := 0) (N := some 23) (v := ?_) (a' := ?_) #[true, false, false, false, false, false, false, false, false, false, false] rfl rfl (by kernel_rfl) (fun _ _ _ h => h) (Or.inl ⟨by rfl, ?_⟩) hHeld ?_ ?_
  rotate_left
  · intro w' hS
    obtain ⟨c1_, c2_, c3_⟩ := (HP.out.step hS).c2
    go_simp
    with_reducible rfl
  rotate_left
  · simp only [Act.put, List.setIfInBounds_toArray, List.set_cons_zero, List.set_cons_succ, i64_w, i32_w]
    rfl
  refine take_ (i := 1) (N := some 24) (v := ?_) (a' := ?_) #[true, true, false, false, false, false, false, false, false, false, false] rfl rfl (by kernel_rfl) (fun _ _ _ h => h) (Or.inl ⟨by rfl, ?_⟩) hHeld ?_ ?_
  rotate_left
  · intro w' hS
    obtain ⟨c1_, c2_, c3_⟩ := (HP.out.step hS).c3
    go_simp
    with_reducible rfl
  rotate_left
  · simp only [Act.put, List.setIfInBounds_toArray, List.set_cons_zero, List.set_cons_succ, i64_w, i32_w]
    rfl
  refine take_ (i := 3) (N := some 26) (v := ?_) (a' := ?_) #[true, true, false, true, false, false, false, false, false, false, false] rfl rfl (by kernel_rfl) (fun _ _ _ h => h) (Or.inl ⟨by rfl, ?_⟩) hHeld ?_ ?_
  rotate_left
  · intro w' hS
    obtain ⟨c1_, c2_, c3_⟩ := (HP.out.step hS).c3
    go_simp
    with_reducible rfl
  rotate_left
  · simp only [Act.put, List.setIfInBounds_toArray, List.set_cons_zero, List.set_cons_succ, i64_w, i32_w]
    rfl
  refine take_ (i := 5) (N := some 28) (v := ?_) (a' := ?_) #[true, true, false, true, false, true, false, false, false, false, false] rfl rfl (by kernel_rfl) (fun _ _ _ h => h) (Or.inl ⟨by rfl, ?_⟩) hHeld ?_ ?_
  rotate_left
  · intro w' hS
    obtain ⟨c1_, c2_, c3_⟩ := (HP.out.step hS).c2
    go_simp
    with_reducible rfl
  rotate_left
  · simp only [Act.put, List.setIfInBounds_toArray, List.set_cons_zero, List.set_cons_succ, i64_w, i32_w]
    rfl
  refine take_ (i := 6) (N := some 29) (v := ?_) (a' := ?_) #[true, true, false, true, false, true, true, false, false, false, false] rfl rfl (by kernel_rfl) (fun _ _ _ h => h) (Or.inl ⟨by rfl, ?_⟩) hHeld ?_ ?_
  rotate_left
  · intro w' hS
    obtain ⟨c1_, c2_, c3_⟩ := (HP.out.step hS).c3
    go_simp
    with_reducible rfl
  rotate_left
  · simp only [Act.put, List.setIfInBounds_toArray, List.set_cons_zero, List.set_cons_succ, i64_w, i32_w]
    rfl
  refine mono_ (l := #[true, true, false, true, false, true, true, false, false, false, false]) [⟨2, 25, []⟩, ⟨4, 27, [2]⟩, ⟨7, 30, [4]⟩, ⟨8, 31, [4, 7]⟩, ⟨9, 9, []⟩] #[true, true, true, true, true, true, true, true, true, true, false] (fun s v w_ => (s = 25 → EF w_ v (opE 9 vE aE)) ∧ (s = 27 → EF w_ v (opE 8 (opE 9 vE aE) aE)) ∧ (s = 30 → EF w_ v (opE 10 vE aE)) ∧ (s = 31 → EF w_ v (opE 6 (opE 8 (opE 9 vE aE) aE) (opE 10 vE aE))) ∧ (s = 9 → AL w2.heap.size 27 #[.int .i64 0, .int .i64 0, .slice none 0 0] w_ v) ∧ True) (fun w_ => Below w2.heap.size w2 w_) 1 (by kernel_rfl) (by kernel_rfl) ?_ (fun _ h => h) hHeld ?_ ?_ ?_
  · simp
  · intro s v w_ w2_ h hb
    exact ⟨fun e => (h.1 e).below hb, fun e => (h.2.1 e).below hb, fun e => (h.2.2.1 e).below hb, fun e => (h.2.2.2.1 e).below hb, fun e => (h.2.2.2.2.1 e).below hb, trivial⟩
  · intro c hc a2 w2_ hG hbase hdep
    simp only [List.mem_cons, List.not_mem_nil, or_false] at hc
    rcases hc with rfl | rfl | rfl | rfl | rfl
    · skip
      have e23 := (hbase 23 (by simp)).trans (rfl : _ = some (.agg #[.int .i64 3, .int .i64 0, .slice none 0 0] : Value))
      have e24 := (hbase 24 (by simp)).trans (rfl : _ = some (.agg #[.int .i64 5, .int .i64 0, .slice none 0 0] : Value))
      refine wpOp_mono (fun a3 w3_ h => ?_) (callM_ (w0 := w2) (T := fun v w_ => EF w_ v (opE 9 vE aE)) (by rfl) rfl rfl Try.func11 (by kernel_rfl) rfl #[.int .i64 9, .agg #[.int .i64 3, .int .i64 0, .slice none 0 0], .agg #[.int .i64 5, .int .i64 0, .slice none 0 0]] rfl (by simp only [List.map_toArray, List.map_cons, List.map_nil, eval_tmp e23, eval_tmp e24, eval_const]) hG (two_EF 9 _ _ vE aE w2_ (EF.leaf _ 3 0) (EF.leaf _ 5 0)))
      obtain ⟨v, h1, h2, h3, h4⟩ := h
      exact ⟨v, h1, ⟨fun _ => h2, fun e => absurd e (by decide), fun e => absurd e (by decide), fun e => absurd e (by decide), fun e => absurd e (by decide), trivial⟩, h3, h4⟩
    · skip
      obtain ⟨v25, e25, k_⟩ := hdep ⟨2, 25, []⟩ (by simp) (by simp)
      have k25 : EF w2_ v25 (opE 9 vE aE) := k_.1 rfl
      have e26 := (hbase 26 (by simp)).trans (rfl : _ = some (.agg #[.int .i64 5, .int .i64 0, .slice none 0 0] : Value))
      refine wpOp_mono (fun a3 w3_ h => ?_) (callM_ (w0 := w2) (T := fun v w_ => EF w_ v (opE 8 (opE 9 vE aE) aE)) (by rfl) rfl rfl Try.func11 (by kernel_rfl) rfl #[.int .i64 8, v25, .agg #[.int .i64 5, .int .i64 0, .slice none 0 0]] rfl (by simp only [List.map_toArray, List.map_cons, List.map_nil, eval_tmp e25, eval_tmp e26, eval_const]) hG (two_EF 8 v25 _ (opE 9 vE aE) aE w2_ k25 (EF.leaf _ 5 0)))
      obtain ⟨v, h1, h2, h3, h4⟩ := h
      exact ⟨v, h1, ⟨fun e => absurd e (by decide), fun _ => h2, fun e => absurd e (by decide), fun e => absurd e (by decide), fun e => absurd e (by decide), trivial⟩, h3, h4⟩
    · skip
      have e28 := (hbase 28 (by simp)).trans (rfl : _ = some (.agg #[.int .i64 3, .int .i64 0, .slice none 0 0] : Value))
      have e29 := (hbase 29 (by simp)).trans (rfl : _ = some (.agg #[.int .i64 5, .int .i64 0, .slice none 0 0] : Value))
      refine wpOp_mono (fun a3 w3_ h => ?_) (callM_ (w0 := w2) (T := fun v w_ => EF w_ v (opE 10 vE aE)) (by rfl) rfl rfl Try.func11 (by kernel_rfl) rfl #[.int .i64 10, .agg #[.int .i64 3, .int .i64 0, .slice none 0 0], .agg #[.int .i64 5, .int .i64 0, .slice none 0 0]] rfl (by simp only [List.map_toArray, List.map_cons, List.map_nil, eval_tmp e28, eval_tmp e29, eval_const]) hG (two_EF 10 _ _ vE aE w2_ (EF.leaf _ 3 0) (EF.leaf _ 5 0)))
      obtain ⟨v, h1, h2, h3, h4⟩ := h
      exact ⟨v, h1, ⟨fun e => absurd e (by decide), fun e => absurd e (by decide), fun _ => h2, fun e => absurd e (by decide), fun e => absurd e (by decide), trivial⟩, h3, h4⟩
    · skip
      obtain ⟨v27, e27, k_⟩ := hdep ⟨4, 27, [2]⟩ (by simp) (by simp)
      have k27 : EF w2_ v27 (opE 8 (opE 9 vE aE) aE) := k_.2.1 rfl
      obtain ⟨v30, e30, k_⟩ := hdep ⟨7, 30, [4]⟩ (by simp) (by simp)
      have k30 : EF w2_ v30 (opE 10 vE aE) := k_.2.2.1 rfl
      refine wpOp_mono (fun a3 w3_ h => ?_) (callM_ (w0 := w2) (T := fun v w_ => EF w_ v (opE 6 (opE 8 (opE 9 vE aE) aE) (opE 10 vE aE))) (by rfl) rfl rfl Try.func11 (by kernel_rfl) rfl #[.int .i64 6, v27, v30] rfl (by simp only [List.map_toArray, List.map_cons, List.map_nil, eval_tmp e27, eval_tmp e30, eval_const]) hG (two_EF 6 v27 v30 _ _ w2_ k27 k30))
      obtain ⟨v, h1, h2, h3, h4⟩ := h
      exact ⟨v, h1, ⟨fun e => absurd e (by decide), fun e => absurd e (by decide), fun e => absurd e (by decide), fun _ => h2, fun e => absurd e (by decide), trivial⟩, h3, h4⟩
    · skip
      refine wpOp_mono (fun a3 w3_ h => ?_) (valueM_ (w0 := w2) (T := fun v w_ => AL w2.heap.size 27 #[.int .i64 0, .int .i64 0, .slice none 0 0] w_ v) (w1 := w2_.alloc (.cells #[.int .i64 0, .int .i64 0, .slice none 0 0] 27)) (v := .pointer (some ⟨w2_.heap.size, 0, none⟩)) (by rfl) rfl rfl (by first | (go_simp; done) | (go_simp; rfl)) hG (AL.new _ _ _ _ hG) (below_alloc (Below.refl _ _) _))
      obtain ⟨v, h1, h2, h3, h4⟩ := h
      exact ⟨v, h1, ⟨fun e => absurd e (by decide), fun e => absurd e (by decide), fun e => absurd e (by decide), fun e => absurd e (by decide), fun _ => h2, trivial⟩, h3, h4⟩
  intro vs w2_ hG_ hT_
  have k25 := (hT_ ⟨2, 25, []⟩ (by simp)).1 rfl
  have k27 := (hT_ ⟨4, 27, [2]⟩ (by simp)).2.1 rfl
  have k30 := (hT_ ⟨7, 30, [4]⟩ (by simp)).2.2.1 rfl
  have k31 := (hT_ ⟨8, 31, [4, 7]⟩ (by simp)).2.2.2.1 rfl
  have k9 := (hT_ ⟨9, 9, []⟩ (by simp)).2.2.2.2.1 rfl
  clear hT_ hHeld
  have hHeld := hG_
  refine norm_ (a' := ?_) ?_ ?_
  rotate_left
  · simp only [putAll, List.map_cons, List.map_nil, Act.put, List.setIfInBounds_toArray, List.set_cons_zero, List.set_cons_succ]
    rfl
  generalize vs 25 = v25 at k25 ⊢
  generalize vs 27 = v27 at k27 ⊢
  generalize vs 30 = v30 at k30 ⊢
  generalize vs 31 = v31 at k31 ⊢
  generalize vs 9 = v9 at k9 ⊢
  refine one_ (i := 10) (N := none) #[true, true, true, true, true, true, true, true, true, true, true] rfl rfl (by kernel_rfl) (by simp) (fun K hK => ?_)
  obtain ⟨S_, s1_, s2_⟩ := k31
  have kF : EF w2_ v31 qE := ⟨S_, s1_, s2_⟩
  obtain ⟨AQ, cQ, rfl, lQ, rQ⟩ := kF.er
  obtain ⟨gQ, rfl, bQ, geQ⟩ := k9
  have x0_ := (blk_cell bQ 0).trans rfl
  have x1_ := (blk_cell bQ 1).trans rfl
  have x2_ := (blk_cell bQ 2).trans rfl
  have z0_ := blk_frozen bQ 0
  have z1_ := blk_frozen bQ 1
  have z2_ := blk_frozen bQ 2
  refine skip_ (w1 := ((w2_.setCell ⟨gQ, 0, none⟩ (.int .i64 6)).setCell ⟨gQ, 1, none⟩ (.int .i64 0)).setCell ⟨gQ, 2, none⟩ (.slice AQ 2 cQ)) (by rfl) rfl (by go_simp; rfl) ?_
  have hb_ : Below w2.heap.size w2 (((w2_.setCell ⟨gQ, 0, none⟩ (.int .i64 6)).setCell ⟨gQ, 1, none⟩ (.int .i64 0)).setCell ⟨gQ, 2, none⟩ (.slice AQ 2 cQ)) := below_set (below_set (below_set hHeld geQ) geQ) geQ
  refine hK.out _ _ hb_ (fun _ => ?_)
  clear hK K
  clear hb_
  refine done_ (by kernel_rfl) ?_

  clear s1_ s2_ k25 k27 k30
  have hlt := HP.out.lt
  have kF3 := ((kF.set_ bQ rfl 0 (.int .i64 6)).set_ (blk_set bQ 0 _) rfl 1 (.int .i64 0)).set_ (blk_set (blk_set bQ 0 _) 1 _) rfl 2 (.slice AQ 2 cQ)
  have bQ3 := blk_set (blk_set (blk_set bQ 0 (.int .i64 6)) 1 (.int .i64 0)) 2 (.slice AQ 2 cQ)
  have h0_ := HP.out.bl.size
  have HP3 := (((HP.out.step hG_).set_ (g2 := gQ) (by omega) (by omega) 0 (.int .i64 6)).set_ (g2 := gQ) (by omega) (by omega) 1 (.int .i64 0)).set_ (g2 := gQ) (by omega) (by omega) 2 (.slice AQ 2 cQ)
  clear kF bQ lQ rQ x0_ x1_ x2_ z0_ z1_ z2_ hHeld hG_ HP hlt h0_ geQ
  generalize ((w2_.setCell ⟨gQ, 0, none⟩ (.int .i64 6)).setCell ⟨gQ, 1, none⟩ (.int .i64 0)).setCell ⟨gQ, 2, none⟩ (.slice AQ 2 cQ) = w3 at kF3 bQ3 HP3 ⊢
  have HP := Aside0.mk HP3
  have kQ := Aside0.mk kF3.er
  clear HP3 kF3
  have y0_ : w3.cell? ⟨gQ, 0, none⟩ = some (.int .i64 6) := (blk_cell bQ3 0).trans rfl
  have y1_ : w3.cell? ⟨gQ, 1, none⟩ = some (.int .i64 0) := (blk_cell bQ3 1).trans rfl
  have y2_ : w3.cell? ⟨gQ, 2, none⟩ = some (.slice AQ 2 cQ) := (blk_cell bQ3 2).trans rfl
  clear bQ3
  obtain ⟨c1_, c2_, c3_⟩ := HP.out.c1
  obtain ⟨p, HQ⟩ : ∃ p, Aside0 (evalOf qE 0 a 0 b = p) := ⟨_, ⟨rfl⟩⟩
  obtain ⟨s, HSV⟩ : ∃ s, Aside0 (wrap64 (mn a b - a) = s) := ⟨_, ⟨rfl⟩⟩
  have HM := Aside0.mk (eval_m a b HIA.out)
  have HS : Aside0 (evalOf sE 0 a 0 b = (s, 0)) := ⟨by rw [eval_s, HSV.out]⟩
  have HT : Aside0 (evalOf tE 0 a 0 b = (s, 0)) := ⟨by rw [eval_t, HSV.out]⟩
  obtain ⟨p1, p2⟩ := p
  go_wp2_with fail
  refine (eval_ER _ _ 0 a 0 b (p1, p2) _ kQ.out HQ.out).mono ?_
  rintro e w4 ⟨rfl, hb_⟩
  replace HP := Aside0.mk (HP.out.step hb_)
  clear hb_ c1_ c2_ c3_ y0_ y1_ y2_ kQ
  go_upto_region 7 with fail
  refine start_ (n := 13) (S := fun w' => Below w4.heap.size w4 w') (ds := []) #[false, false, false, false, false, false, false, false, false, false, false, false, false] (by kernel_rfl) rfl rfl (below_drew (Below.refl _ _)) (fun hHeld => ?_)
  refine pure_ (i := 6) (N := some 46) (v := ?_) (a' := ?_) #[false, false, false, false, false, false, true, false, false, false, false, false, false] rfl rfl (by kernel_rfl) (fun _ _ _ h => h) (Or.inl ⟨by rfl, ?_⟩) ?_ ?_
  rotate_left
  · intro w'
    go_simp
    with_reducible rfl
  rotate_left
  · simp only [Act.put, List.setIfInBounds_toArray, List.set_cons_zero, List.set_cons_succ, i64_w, i32_w]
    rfl
  refine take_ (i := 0) (N := some 40) (v := ?_) (a' := ?_) #[true, false, false, false, false, false, true, false, false, false, false, false, false] rfl rfl (by kernel_rfl) (fun _ _ _ h => h) (Or.inl ⟨by rfl, ?_⟩) hHeld ?_ ?_
  rotate_left
  · intro w' hS
    obtain ⟨c1_, c2_, c3_⟩ := (HP.out.step hS).c2
    go_simp
    with_reducible rfl
  rotate_left
  · simp only [Act.put, List.setIfInBounds_toArray, List.set_cons_zero, List.set_cons_succ, i64_w, i32_w]
    rfl
  refine take_ (i := 1) (N := some 41) (v := ?_) (a' := ?_) #[true, true, false, false, false, false, true, false, false, false, false, false, false] rfl rfl (by kernel_rfl) (fun _ _ _ h => h) (Or.inl ⟨by rfl, ?_⟩) hHeld ?_ ?_
  rotate_left
  · intro w' hS
    obtain ⟨c1_, c2_, c3_⟩ := (HP.out.step hS).c3
    go_simp
    with_reducible rfl
  rotate_left
  · simp only [Act.put, List.setIfInBounds_toArray, List.set_cons_zero, List.set_cons_succ, i64_w, i32_w]
    rfl
  refine take_ (i := 3) (N := some 43) (v := ?_) (a' := ?_) #[true, true, false, true, false, false, true, false, false, false, false, false, false] rfl rfl (by kernel_rfl) (fun _ _ _ h => h) (Or.inl ⟨by rfl, ?_⟩) hHeld ?_ ?_
  rotate_left
  · intro w' hS
    obtain ⟨c1_, c2_, c3_⟩ := (HP.out.step hS).c3
    go_simp
    with_reducible rfl
  rotate_left
  · simp only [Act.put, List.setIfInBounds_toArray, List.set_cons_zero, List.set_cons_succ, i64_w, i32_w]
    rfl
  refine take_ (i := 5) (N := some 45) (v := ?_) (a' := ?_) #[true, true, false, true, false, true, true, false, false, false, false, false, false] rfl rfl (by kernel_rfl) (fun _ _ _ h => h) (Or.inl ⟨by rfl, ?_⟩) hHeld ?_ ?_
  rotate_left
  · intro w' hS
    obtain ⟨c1_, c2_, c3_⟩ := (HP.out.step hS).c1
    go_simp
    with_reducible rfl
  rotate_left
  · simp only [Act.put, List.setIfInBounds_toArray, List.set_cons_zero, List.set_cons_succ, i64_w, i32_w]
    rfl
  refine mono_ (l := #[true, true, false, true, false, true, true, false, false, false, false, false, false]) [⟨2, 42, []⟩, ⟨4, 44, [2]⟩] #[true, true, true, true, true, true, true, false, false, false, false, false, false] (fun s v w_ => (s = 42 → ER w_ v (opE 7 vE aE)) ∧ (s = 44 → ER w_ v mE) ∧ True) (fun w_ => Below w4.heap.size w4 w_) 6 (by kernel_rfl) (by kernel_rfl) ?_ (fun _ h => h) hHeld ?_ ?_ ?_
  · simp
  · intro s v w_ w2_ h hb
    exact ⟨fun e => (h.1 e).below hb, fun e => (h.2.1 e).below hb, trivial⟩
  · intro c hc a2 w2_ hG hbase hdep
    simp only [List.mem_cons, List.not_mem_nil, or_false] at hc
    rcases hc with rfl | rfl
    · skip
      have e40 := (hbase 40 (by simp)).trans (rfl : _ = some (.agg #[.int .i64 3, .int .i64 0, .slice none 0 0] : Value))
      have e41 := (hbase 41 (by simp)).trans (rfl : _ = some (.agg #[.int .i64 5, .int .i64 0, .slice none 0 0] : Value))
      refine wpOp_mono (fun a3 w3_ h => ?_) (callM_ (w0 := w4) (T := fun v w_ => ER w_ v (opE 7 vE aE)) (by rfl) rfl rfl Try.func11 (by kernel_rfl) rfl #[.int .i64 7, .agg #[.int .i64 3, .int .i64 0, .slice none 0 0], .agg #[.int .i64 5, .int .i64 0, .slice none 0 0]] rfl (by simp only [List.map_toArray, List.map_cons, List.map_nil, eval_tmp e40, eval_tmp e41, eval_const]) hG (two_ER 7 _ _ vE aE w2_ (ER.leaf _ 3 0) (ER.leaf _ 5 0)))
      obtain ⟨v, h1, h2, h3, h4⟩ := h
      exact ⟨v, h1, ⟨fun _ => h2, fun e => absurd e (by decide), trivial⟩, h3, h4⟩
    · skip
      obtain ⟨v42, e42, k_⟩ := hdep ⟨2, 42, []⟩ (by simp) (by simp)
      have k42 : ER w2_ v42 (opE 7 vE aE) := k_.1 rfl
      have e43 := (hbase 43 (by simp)).trans (rfl : _ = some (.agg #[.int .i64 5, .int .i64 0, .slice none 0 0] : Value))
      refine wpOp_mono (fun a3 w3_ h => ?_) (callM_ (w0 := w4) (T := fun v w_ => ER w_ v mE) (by rfl) rfl rfl Try.func11 (by kernel_rfl) rfl #[.int .i64 6, v42, .agg #[.int .i64 5, .int .i64 0, .slice none 0 0]] rfl (by simp only [List.map_toArray, List.map_cons, List.map_nil, eval_tmp e42, eval_tmp e43, eval_const]) hG (two_ER 6 v42 _ (opE 7 vE aE) aE w2_ k42 (ER.leaf _ 5 0)))
      obtain ⟨v, h1, h2, h3, h4⟩ := h
      exact ⟨v, h1, ⟨fun e => absurd e (by decide), fun _ => h2, trivial⟩, h3, h4⟩
  intro vs w2_ hG_ hT_
  have k42 := (hT_ ⟨2, 42, []⟩ (by simp)).1 rfl
  have k44 := (hT_ ⟨4, 44, [2]⟩ (by simp)).2.1 rfl
  clear hT_ hHeld
  have hHeld := hG_
  refine norm_ (a' := ?_) ?_ ?_
  rotate_left
  · simp only [putAll, List.map_cons, List.map_nil, Act.put, List.setIfInBounds_toArray, List.set_cons_zero, List.set_cons_succ]
    rfl
  generalize vs 42 = v42 at k42 ⊢
  generalize vs 44 = v44 at k44 ⊢
  refine one_ (i := 7) (N := some 47) #[true, true, true, true, true, true, true, true, false, false, false, false, false] rfl rfl (by kernel_rfl) (by simp) (fun K hK => ?_)
  refine goes_ Try.func12 (by kernel_rfl) rfl #[v44, .agg #[.int .i64 0, .int .i64 a, .int .i64 0], .int .i64 b] (by rfl) rfl rfl (by simp only [List.map_toArray, List.map_cons, List.map_nil]; rfl) ?_
  with_reducible refine (eval_ER v44 _ 0 a 0 b (a, 0) _ k44 HM.out).mono ?_
  rintro e_ w5 ⟨rfl, hb_⟩
  refine ⟨_, rfl, ?_⟩
  replace hb_ := below_step hHeld hb_
  refine hK.out _ _ hb_ (fun _ => ?_)
  clear hK K
  refine norm_ (a' := ?_) ?_ ?_
  rotate_left
  · show Act.put _ (some 47) _ = _
    simp only [Act.put, List.setIfInBounds_toArray, List.set_cons_zero, List.set_cons_succ, i64_w, i32_w]
    rfl
  have HP2 := Aside0.mk (HP.out.step hb_)
  clear hb_
  refine pure_ (i := 8) (N := some 39) (v := ?_) (a' := ?_) #[true, true, true, true, true, true, true, true, true, false, false, false, false] rfl rfl (by kernel_rfl) (fun _ _ _ h => h) (Or.inl ⟨by rfl, ?_⟩) ?_ ?_
  rotate_left
  · intro w'
    go_simp
    with_reducible rfl
  rotate_left
  · simp only [Act.put, List.setIfInBounds_toArray, List.set_cons_zero, List.set_cons_succ, i64_w, i32_w]
    rfl
  refine pure_ (i := 9) (N := some 48) (v := ?_) (a' := ?_) #[true, true, true, true, true, true, true, true, true, true, false, false, false] rfl rfl (by kernel_rfl) (fun _ _ _ h => h) (Or.inl ⟨by rfl, ?_⟩) ?_ ?_
  rotate_left
  · intro w'
    go_simp
    with_reducible rfl
  rotate_left
  · simp only [Act.put, List.setIfInBounds_toArray, List.set_cons_zero, List.set_cons_succ, i64_w, i32_w]
    rfl
  refine pure_ (i := 10) (N := some 49) (v := ?_) (a' := ?_) #[true, true, true, true, true, true, true, true, true, true, true, false, false] rfl rfl (by kernel_rfl) (fun _ _ _ h => h) (Or.inl ⟨by rfl, ?_⟩) ?_ ?_
  rotate_left
  · intro w'
    go_simp
    with_reducible rfl
  rotate_left
  · simp only [Act.put, List.setIfInBounds_toArray, List.set_cons_zero, List.set_cons_succ, i64_w, i32_w]
    rfl
  refine pure_ (i := 11) (N := some 12) (v := ?_) (a' := ?_) #[true, true, true, true, true, true, true, true, true, true, true, true, false] rfl rfl (by kernel_rfl) (fun _ _ _ h => h) (Or.inl ⟨by rfl, ?_⟩) ?_ ?_
  rotate_left
  · intro w'
    go_simp
    with_reducible rfl
  rotate_left
  · simp only [Act.put, List.setIfInBounds_toArray, List.set_cons_zero, List.set_cons_succ, i64_w, i32_w]
    rfl
  refine pure_ (i := 12) (N := some 13) (v := ?_) (a' := ?_) #[true, true, true, true, true, true, true, true, true, true, true, true, true] rfl rfl (by kernel_rfl) (fun _ _ _ h => h) (Or.inl ⟨by rfl, ?_⟩) ?_ ?_
  rotate_left
  · intro w'
    go_simp
    with_reducible rfl
  rotate_left
  · simp only [Act.put, List.setIfInBounds_toArray, List.set_cons_zero, List.set_cons_succ, i64_w, i32_w]
    rfl
  refine done_ (by kernel_rfl) ?_

  clear HP hG_ hHeld k42 k44
  replace HP := HP2
  clear HP2
  go_upto_region 8 with fail
  refine start_ (n := 13) (S := fun w' => Below w5.heap.size w5 w') (ds := []) #[false, false, false, false, false, false, false, false, false, false, false, false, false] (by kernel_rfl) rfl rfl (below_drew (Below.refl _ _)) (fun hHeld => ?_)
  refine pure_ (i := 6) (N := some 57) (v := ?_) (a' := ?_) #[false, false, false, false, false, false, true, false, false, false, false, false, false] rfl rfl (by kernel_rfl) (fun _ _ _ h => h) (Or.inl ⟨by rfl, ?_⟩) ?_ ?_
  rotate_left
  · intro w'
    go_simp
    with_reducible rfl
  rotate_left
  · simp only [Act.put, List.setIfInBounds_toArray, List.set_cons_zero, List.set_cons_succ, i64_w, i32_w]
    rfl
  refine take_ (i := 0) (N := some 51) (v := ?_) (a' := ?_) #[true, false, false, false, false, false, true, false, false, false, false, false, false] rfl rfl (by kernel_rfl) (fun _ _ _ h => h) (Or.inl ⟨by rfl, ?_⟩) hHeld ?_ ?_
  rotate_left
  · intro w' hS
    obtain ⟨c1_, c2_, c3_⟩ := (HP.out.step hS).c2
    go_simp
    with_reducible rfl
  rotate_left
  · simp only [Act.put, List.setIfInBounds_toArray, List.set_cons_zero, List.set_cons_succ, i64_w, i32_w]
    rfl
  refine take_ (i := 1) (N := some 52) (v := ?_) (a' := ?_) #[true, true, false, false, false, false, true, false, false, false, false, false, false] rfl rfl (by kernel_rfl) (fun _ _ _ h => h) (Or.inl ⟨by rfl, ?_⟩) hHeld ?_ ?_
  rotate_left
  · intro w' hS
    obtain ⟨c1_, c2_, c3_⟩ := (HP.out.step hS).c3
    go_simp
    with_reducible rfl
  rotate_left
  · simp only [Act.put, List.setIfInBounds_toArray, List.set_cons_zero, List.set_cons_succ, i64_w, i32_w]
    rfl
  refine take_ (i := 3) (N := some 54) (v := ?_) (a' := ?_) #[true, true, false, true, false, false, true, false, false, false, false, false, false] rfl rfl (by kernel_rfl) (fun _ _ _ h => h) (Or.inl ⟨by rfl, ?_⟩) hHeld ?_ ?_
  rotate_left
  · intro w' hS
    obtain ⟨c1_, c2_, c3_⟩ := (HP.out.step hS).c2
    go_simp
    with_reducible rfl
  rotate_left
  · simp only [Act.put, List.setIfInBounds_toArray, List.set_cons_zero, List.set_cons_succ, i64_w, i32_w]
    rfl
  refine take_ (i := 5) (N := some 56) (v := ?_) (a' := ?_) #[true, true, false, true, false, true, true, false, false, false, false, false, false] rfl rfl (by kernel_rfl) (fun _ _ _ h => h) (Or.inl ⟨by rfl, ?_⟩) hHeld ?_ ?_
  rotate_left
  · intro w' hS
    obtain ⟨c1_, c2_, c3_⟩ := (HP.out.step hS).c1
    go_simp
    with_reducible rfl
  rotate_left
  · simp only [Act.put, List.setIfInBounds_toArray, List.set_cons_zero, List.set_cons_succ, i64_w, i32_w]
    rfl
  refine mono_ (l := #[true, true, false, true, false, true, true, false, false, false, false, false, false]) [⟨2, 53, []⟩, ⟨4, 55, [2]⟩] #[true, true, true, true, true, true, true, false, false, false, false, false, false] (fun s v w_ => (s = 53 → ER w_ v (opE 15 vE aE)) ∧ (s = 55 → ER w_ v sE) ∧ True) (fun w_ => Below w5.heap.size w5 w_) 6 (by kernel_rfl) (by kernel_rfl) ?_ (fun _ h => h) hHeld ?_ ?_ ?_
  · simp
  · intro s v w_ w2_ h hb
    exact ⟨fun e => (h.1 e).below hb, fun e => (h.2.1 e).below hb, trivial⟩
  · intro c hc a2 w2_ hG hbase hdep
    simp only [List.mem_cons, List.not_mem_nil, or_false] at hc
    rcases hc with rfl | rfl
    · skip
      have e51 := (hbase 51 (by simp)).trans (rfl : _ = some (.agg #[.int .i64 3, .int .i64 0, .slice none 0 0] : Value))
      have e52 := (hbase 52 (by simp)).trans (rfl : _ = some (.agg #[.int .i64 5, .int .i64 0, .slice none 0 0] : Value))
      refine wpOp_mono (fun a3 w3_ h => ?_) (callM_ (w0 := w5) (T := fun v w_ => ER w_ v (opE 15 vE aE)) (by rfl) rfl rfl Try.func11 (by kernel_rfl) rfl #[.int .i64 15, .agg #[.int .i64 3, .int .i64 0, .slice none 0 0], .agg #[.int .i64 5, .int .i64 0, .slice none 0 0]] rfl (by simp only [List.map_toArray, List.map_cons, List.map_nil, eval_tmp e51, eval_tmp e52, eval_const]) hG (two_ER 15 _ _ vE aE w2_ (ER.leaf _ 3 0) (ER.leaf _ 5 0)))
      obtain ⟨v, h1, h2, h3, h4⟩ := h
      exact ⟨v, h1, ⟨fun _ => h2, fun e => absurd e (by decide), trivial⟩, h3, h4⟩
    · skip
      obtain ⟨v53, e53, k_⟩ := hdep ⟨2, 53, []⟩ (by simp) (by simp)
      have k53 : ER w2_ v53 (opE 15 vE aE) := k_.1 rfl
      have e54 := (hbase 54 (by simp)).trans (rfl : _ = some (.agg #[.int .i64 3, .int .i64 0, .slice none 0 0] : Value))
      refine wpOp_mono (fun a3 w3_ h => ?_) (callM_ (w0 := w5) (T := fun v w_ => ER w_ v sE) (by rfl) rfl rfl Try.func11 (by kernel_rfl) rfl #[.int .i64 7, v53, .agg #[.int .i64 3, .int .i64 0, .slice none 0 0]] rfl (by simp only [List.map_toArray, List.map_cons, List.map_nil, eval_tmp e53, eval_tmp e54, eval_const]) hG (two_ER 7 v53 _ (opE 15 vE aE) vE w2_ k53 (ER.leaf _ 3 0)))
      obtain ⟨v, h1, h2, h3, h4⟩ := h
      exact ⟨v, h1, ⟨fun e => absurd e (by decide), fun _ => h2, trivial⟩, h3, h4⟩
  intro vs w2_ hG_ hT_
  have k53 := (hT_ ⟨2, 53, []⟩ (by simp)).1 rfl
  have k55 := (hT_ ⟨4, 55, [2]⟩ (by simp)).2.1 rfl
  clear hT_ hHeld
  have hHeld := hG_
  refine norm_ (a' := ?_) ?_ ?_
  rotate_left
  · simp only [putAll, List.map_cons, List.map_nil, Act.put, List.setIfInBounds_toArray, List.set_cons_zero, List.set_cons_succ]
    rfl
  generalize vs 53 = v53 at k53 ⊢
  generalize vs 55 = v55 at k55 ⊢
  refine one_ (i := 7) (N := some 58) #[true, true, true, true, true, true, true, true, false, false, false, false, false] rfl rfl (by kernel_rfl) (by simp) (fun K hK => ?_)
  refine goes_ Try.func12 (by kernel_rfl) rfl #[v55, .agg #[.int .i64 0, .int .i64 a, .int .i64 0], .int .i64 b] (by rfl) rfl rfl (by simp only [List.map_toArray, List.map_cons, List.map_nil]; rfl) ?_
  with_reducible refine (eval_ER v55 _ 0 a 0 b (s, 0) _ k55 HS.out).mono ?_
  rintro e_ w6 ⟨rfl, hb_⟩
  refine ⟨_, rfl, ?_⟩
  replace hb_ := below_step hHeld hb_
  refine hK.out _ _ hb_ (fun _ => ?_)
  clear hK K
  refine norm_ (a' := ?_) ?_ ?_
  rotate_left
  · show Act.put _ (some 58) _ = _
    simp only [Act.put, List.setIfInBounds_toArray, List.set_cons_zero, List.set_cons_succ, i64_w, i32_w]
    rfl
  have HP2 := Aside0.mk (HP.out.step hb_)
  clear hb_
  refine pure_ (i := 8) (N := some 50) (v := ?_) (a' := ?_) #[true, true, true, true, true, true, true, true, true, false, false, false, false] rfl rfl (by kernel_rfl) (fun _ _ _ h => h) (Or.inl ⟨by rfl, ?_⟩) ?_ ?_
  rotate_left
  · intro w'
    go_simp
    with_reducible rfl
  rotate_left
  · simp only [Act.put, List.setIfInBounds_toArray, List.set_cons_zero, List.set_cons_succ, i64_w, i32_w]
    rfl
  refine pure_ (i := 9) (N := some 59) (v := ?_) (a' := ?_) #[true, true, true, true, true, true, true, true, true, true, false, false, false] rfl rfl (by kernel_rfl) (fun _ _ _ h => h) (Or.inl ⟨by rfl, ?_⟩) ?_ ?_
  rotate_left
  · intro w'
    go_simp
    with_reducible rfl
  rotate_left
  · simp only [Act.put, List.setIfInBounds_toArray, List.set_cons_zero, List.set_cons_succ, i64_w, i32_w]
    rfl
  refine pure_ (i := 10) (N := some 60) (v := ?_) (a' := ?_) #[true, true, true, true, true, true, true, true, true, true, true, false, false] rfl rfl (by kernel_rfl) (fun _ _ _ h => h) (Or.inl ⟨by rfl, ?_⟩) ?_ ?_
  rotate_left
  · intro w'
    go_simp
    with_reducible rfl
  rotate_left
  · simp only [Act.put, List.setIfInBounds_toArray, List.set_cons_zero, List.set_cons_succ, i64_w, i32_w]
    rfl
  refine pure_ (i := 11) (N := some 14) (v := ?_) (a' := ?_) #[true, true, true, true, true, true, true, true, true, true, true, true, false] rfl rfl (by kernel_rfl) (fun _ _ _ h => h) (Or.inl ⟨by rfl, ?_⟩) ?_ ?_
  rotate_left
  · intro w'
    go_simp
    with_reducible rfl
  rotate_left
  · simp only [Act.put, List.setIfInBounds_toArray, List.set_cons_zero, List.set_cons_succ, i64_w, i32_w]
    rfl
  refine pure_ (i := 12) (N := some 15) (v := ?_) (a' := ?_) #[true, true, true, true, true, true, true, true, true, true, true, true, true] rfl rfl (by kernel_rfl) (fun _ _ _ h => h) (Or.inl ⟨by rfl, ?_⟩) ?_ ?_
  rotate_left
  · intro w'
    go_simp
    with_reducible rfl
  rotate_left
  · simp only [Act.put, List.setIfInBounds_toArray, List.set_cons_zero, List.set_cons_succ, i64_w, i32_w]
    rfl
  refine done_ (by kernel_rfl) ?_

  clear HP hG_ hHeld k53 k55
  replace HP := HP2
  clear HP2
  go_upto_region 9 with fail
  refine start_ (n := 13) (S := fun w' => Below w6.heap.size w6 w') (ds := []) #[false, false, false, false, false, false, false, false, false, false, false, false, false] (by kernel_rfl) rfl rfl (below_drew (Below.refl _ _)) (fun hHeld => ?_)
  refine pure_ (i := 6) (N := some 68) (v := ?_) (a' := ?_) #[false, false, false, false, false, false, true, false, false, false, false, false, false] rfl rfl (by kernel_rfl) (fun _ _ _ h => h) (Or.inl ⟨by rfl, ?_⟩) ?_ ?_
  rotate_left
  · intro w'
    go_simp
    with_reducible rfl
  rotate_left
  · simp only [Act.put, List.setIfInBounds_toArray, List.set_cons_zero, List.set_cons_succ, i64_w, i32_w]
    rfl
  refine take_ (i := 0) (N := some 62) (v := ?_) (a' := ?_) #[true, false, false, false, false, false, true, false, false, false, false, false, false] rfl rfl (by kernel_rfl) (fun _ _ _ h => h) (Or.inl ⟨by rfl, ?_⟩) hHeld ?_ ?_
  rotate_left
  · intro w' hS
    obtain ⟨c1_, c2_, c3_⟩ := (HP.out.step hS).c3
    go_simp
    with_reducible rfl
  rotate_left
  · simp only [Act.put, List.setIfInBounds_toArray, List.set_cons_zero, List.set_cons_succ, i64_w, i32_w]
    rfl
  refine take_ (i := 1) (N := some 63) (v := ?_) (a' := ?_) #[true, true, false, false, false, false, true, false, false, false, false, false, false] rfl rfl (by kernel_rfl) (fun _ _ _ h => h) (Or.inl ⟨by rfl, ?_⟩) hHeld ?_ ?_
  rotate_left
  · intro w' hS
    obtain ⟨c1_, c2_, c3_⟩ := (HP.out.step hS).c2
    go_simp
    with_reducible rfl
  rotate_left
  · simp only [Act.put, List.setIfInBounds_toArray, List.set_cons_zero, List.set_cons_succ, i64_w, i32_w]
    rfl
  refine take_ (i := 2) (N := some 64) (v := ?_) (a' := ?_) #[true, true, true, false, false, false, true, false, false, false, false, false, false] rfl rfl (by kernel_rfl) (fun _ _ _ h => h) (Or.inl ⟨by rfl, ?_⟩) hHeld ?_ ?_
  rotate_left
  · intro w' hS
    obtain ⟨c1_, c2_, c3_⟩ := (HP.out.step hS).c3
    go_simp
    with_reducible rfl
  rotate_left
  · simp only [Act.put, List.setIfInBounds_toArray, List.set_cons_zero, List.set_cons_succ, i64_w, i32_w]
    rfl
  refine take_ (i := 5) (N := some 67) (v := ?_) (a' := ?_) #[true, true, true, false, false, true, true, false, false, false, false, false, false] rfl rfl (by kernel_rfl) (fun _ _ _ h => h) (Or.inl ⟨by rfl, ?_⟩) hHeld ?_ ?_
  rotate_left
  · intro w' hS
    obtain ⟨c1_, c2_, c3_⟩ := (HP.out.step hS).c1
    go_simp
    with_reducible rfl
  rotate_left
  · simp only [Act.put, List.setIfInBounds_toArray, List.set_cons_zero, List.set_cons_succ, i64_w, i32_w]
    rfl
  refine mono_ (l := #[true, true, true, false, false, true, true, false, false, false, false, false, false]) [⟨3, 65, []⟩, ⟨4, 66, [3]⟩] #[true, true, true, true, true, true, true, false, false, false, false, false, false] (fun s v w_ => (s = 65 → ER w_ v (opE 16 vE aE)) ∧ (s = 66 → ER w_ v tE) ∧ True) (fun w_ => Below w6.heap.size w6 w_) 6 (by kernel_rfl) (by kernel_rfl) ?_ (fun _ h => h) hHeld ?_ ?_ ?_
  · simp
  · intro s v w_ w2_ h hb
    exact ⟨fun e => (h.1 e).below hb, fun e => (h.2.1 e).below hb, trivial⟩
  · intro c hc a2 w2_ hG hbase hdep
    simp only [List.mem_cons, List.not_mem_nil, or_false] at hc
    rcases hc with rfl | rfl
    · skip
      have e63 := (hbase 63 (by simp)).trans (rfl : _ = some (.agg #[.int .i64 3, .int .i64 0, .slice none 0 0] : Value))
      have e64 := (hbase 64 (by simp)).trans (rfl : _ = some (.agg #[.int .i64 5, .int .i64 0, .slice none 0 0] : Value))
      refine wpOp_mono (fun a3 w3_ h => ?_) (callM_ (w0 := w6) (T := fun v w_ => ER w_ v (opE 16 vE aE)) (by rfl) rfl rfl Try.func11 (by kernel_rfl) rfl #[.int .i64 16, .agg #[.int .i64 3, .int .i64 0, .slice none 0 0], .agg #[.int .i64 5, .int .i64 0, .slice none 0 0]] rfl (by simp only [List.map_toArray, List.map_cons, List.map_nil, eval_tmp e63, eval_tmp e64, eval_const]) hG (two_ER 16 _ _ vE aE w2_ (ER.leaf _ 3 0) (ER.leaf _ 5 0)))
      obtain ⟨v, h1, h2, h3, h4⟩ := h
      exact ⟨v, h1, ⟨fun _ => h2, fun e => absurd e (by decide), trivial⟩, h3, h4⟩
    · skip
      have e62 := (hbase 62 (by simp)).trans (rfl : _ = some (.agg #[.int .i64 5, .int .i64 0, .slice none 0 0] : Value))
      obtain ⟨v65, e65, k_⟩ := hdep ⟨3, 65, []⟩ (by simp) (by simp)
      have k65 : ER w2_ v65 (opE 16 vE aE) := k_.1 rfl
      refine wpOp_mono (fun a3 w3_ h => ?_) (callM_ (w0 := w6) (T := fun v w_ => ER w_ v tE) (by rfl) rfl rfl Try.func11 (by kernel_rfl) rfl #[.int .i64 7, .agg #[.int .i64 5, .int .i64 0, .slice none 0 0], v65] rfl (by simp only [List.map_toArray, List.map_cons, List.map_nil, eval_tmp e62, eval_tmp e65, eval_const]) hG (two_ER 7 _ v65 aE (opE 16 vE aE) w2_ (ER.leaf _ 5 0) k65))
      obtain ⟨v, h1, h2, h3, h4⟩ := h
      exact ⟨v, h1, ⟨fun e => absurd e (by decide), fun _ => h2, trivial⟩, h3, h4⟩
  intro vs w2_ hG_ hT_
  have k65 := (hT_ ⟨3, 65, []⟩ (by simp)).1 rfl
  have k66 := (hT_ ⟨4, 66, [3]⟩ (by simp)).2.1 rfl
  clear hT_ hHeld
  have hHeld := hG_
  refine norm_ (a' := ?_) ?_ ?_
  rotate_left
  · simp only [putAll, List.map_cons, List.map_nil, Act.put, List.setIfInBounds_toArray, List.set_cons_zero, List.set_cons_succ]
    rfl
  generalize vs 65 = v65 at k65 ⊢
  generalize vs 66 = v66 at k66 ⊢
  refine one_ (i := 7) (N := some 69) #[true, true, true, true, true, true, true, true, false, false, false, false, false] rfl rfl (by kernel_rfl) (by simp) (fun K hK => ?_)
  refine goes_ Try.func12 (by kernel_rfl) rfl #[v66, .agg #[.int .i64 0, .int .i64 a, .int .i64 0], .int .i64 b] (by rfl) rfl rfl (by simp only [List.map_toArray, List.map_cons, List.map_nil]; rfl) ?_
  with_reducible refine (eval_ER v66 _ 0 a 0 b (s, 0) _ k66 HT.out).mono ?_
  rintro e_ w7 ⟨rfl, hb_⟩
  refine ⟨_, rfl, ?_⟩
  replace hb_ := below_step hHeld hb_
  refine hK.out _ _ hb_ (fun _ => ?_)
  clear hK K
  refine norm_ (a' := ?_) ?_ ?_
  rotate_left
  · show Act.put _ (some 69) _ = _
    simp only [Act.put, List.setIfInBounds_toArray, List.set_cons_zero, List.set_cons_succ, i64_w, i32_w]
    rfl
  have HP2 := Aside0.mk (HP.out.step hb_)
  clear hb_
  refine pure_ (i := 8) (N := some 61) (v := ?_) (a' := ?_) #[true, true, true, true, true, true, true, true, true, false, false, false, false] rfl rfl (by kernel_rfl) (fun _ _ _ h => h) (Or.inl ⟨by rfl, ?_⟩) ?_ ?_
  rotate_left
  · intro w'
    go_simp
    with_reducible rfl
  rotate_left
  · simp only [Act.put, List.setIfInBounds_toArray, List.set_cons_zero, List.set_cons_succ, i64_w, i32_w]
    rfl
  refine pure_ (i := 9) (N := some 70) (v := ?_) (a' := ?_) #[true, true, true, true, true, true, true, true, true, true, false, false, false] rfl rfl (by kernel_rfl) (fun _ _ _ h => h) (Or.inl ⟨by rfl, ?_⟩) ?_ ?_
  rotate_left
  · intro w'
    go_simp
    with_reducible rfl
  rotate_left
  · simp only [Act.put, List.setIfInBounds_toArray, List.set_cons_zero, List.set_cons_succ, i64_w, i32_w]
    rfl
  refine pure_ (i := 10) (N := some 71) (v := ?_) (a' := ?_) #[true, true, true, true, true, true, true, true, true, true, true, false, false] rfl rfl (by kernel_rfl) (fun _ _ _ h => h) (Or.inl ⟨by rfl, ?_⟩) ?_ ?_
  rotate_left
  · intro w'
    go_simp
    with_reducible rfl
  rotate_left
  · simp only [Act.put, List.setIfInBounds_toArray, List.set_cons_zero, List.set_cons_succ, i64_w, i32_w]
    rfl
  refine pure_ (i := 11) (N := some 16) (v := ?_) (a' := ?_) #[true, true, true, true, true, true, true, true, true, true, true, true, false] rfl rfl (by kernel_rfl) (fun _ _ _ h => h) (Or.inl ⟨by rfl, ?_⟩) ?_ ?_
  rotate_left
  · intro w'
    go_simp
    with_reducible rfl
  rotate_left
  · simp only [Act.put, List.setIfInBounds_toArray, List.set_cons_zero, List.set_cons_succ, i64_w, i32_w]
    rfl
  refine pure_ (i := 12) (N := some 17) (v := ?_) (a' := ?_) #[true, true, true, true, true, true, true, true, true, true, true, true, true] rfl rfl (by kernel_rfl) (fun _ _ _ h => h) (Or.inl ⟨by rfl, ?_⟩) ?_ ?_
  rotate_left
  · intro w'
    go_simp
    with_reducible rfl
  rotate_left
  · simp only [Act.put, List.setIfInBounds_toArray, List.set_cons_zero, List.set_cons_succ, i64_w, i32_w]
    rfl
  refine done_ (by kernel_rfl) ?_

  clear HP hG_ hHeld k65 k66
  have HBL := Aside0.mk HP2.out.bl
  clear HP2 HM HS HT HSV
  by_cases hb0 : b = 0
  · subst hb0
    have hq := HQ.out
    rw [eval_q0] at hq
    injection hq with hq1 hq2
    subst hq1 hq2
    clear HQ HIA HIB
    go_wp2
    go_ret
    exact ⟨rfl, HBL.out⟩
  · have hq := HQ.out
    rw [eval_q a b HIA.out HIB.out hb0] at hq
    injection hq with hq1 hq2
    have g1 : (b == 0) = false := beq_eq_false_iff_ne.2 hb0
    have g2 : (b != 0) = true := bne_iff_ne.2 hb0
    clear HQ HIA HIB hb0
    subst hq1 hq2
    go_wp2
    go_ret
    exact ⟨rfl, HBL.out⟩
end Go.Proofs.Ytpcbcekfakjgkaa.Ex
