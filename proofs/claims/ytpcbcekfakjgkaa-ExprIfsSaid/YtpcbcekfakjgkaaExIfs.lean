/- The statement ExprIfs. -/
import Derived.Test.YtpcbcekfakjgkaaExShown
import Derived.Test.YtpcbcekfakjgkaaExRef
import Derived.Test.YtpcbcekfakjgkaaOpE
namespace Go.Proofs.Ytpcbcekfakjgkaa.Ex
open Go Go.RowKit Go.Proofs.YtpcbcekfakjgkaaW.PrintWords Go.Proofs.YtpcbcekfakjgkaaW.PrintLast Go.Proofs.YtpcbcekfakjgkaaW.PrintMore Go.Proofs.Ytpcbcekfakjgkaa.Mono
set_option linter.unusedVariables false
set_option linter.unusedSimpArgs false
def badE : E := opE 9 (cE 1) (cE 0)
def ifE (x y z : E) : E := ⟨13, 0, [x, y, z]⟩
theorem may_ifE (c : Int) (y z : E) (hy : y = badE ∨ ∃ n, y = cE n) (hz : z = badE ∨ ∃ n, z = cE n) : mayB (ifE (cE c) y z) = true := by
  rw [mayB_iff]
  rcases hy with rfl | ⟨n, rfl⟩ <;> rcases hz with rfl | ⟨m, rfl⟩ <;> simp [okB, cnt, cntL, kidsOf, ifE, cE, badE, opE]
theorem val_bad (d : Nat) (ky vl tm ac : Int) : valOf (d + 2) ky vl tm ac badE = none := by simp [valOf, badE, opE, cE, kid, twoOf]
theorem val_con (d : Nat) (ky vl tm ac n : Int) : valOf (d + 1) ky vl tm ac (cE n) = some n := by simp [valOf, cE]
theorem val_if (d : Nat) (ky vl tm ac c : Int) (y z : E) : valOf (d + 2) ky vl tm ac (ifE (cE c) y z) = if c = 0 then valOf (d + 1) ky vl tm ac z else valOf (d + 1) ky vl tm ac y := by
  rw [valOf]
  simp only [ifE, kid]
  simp [val_con]
theorem eval_ifs (c a b : Int) : evalOf (ifE (cE c) (cE a) (cE b)) 0 0 0 0 = (if c = 0 then b else a, 0) := by
  unfold evalOf
  rw [if_pos (may_ifE c _ _ (.inr ⟨_, rfl⟩) (.inr ⟨_, rfl⟩)), val_if 14]
  by_cases h : c = 0
  · rw [if_pos h, if_pos h, val_con 14]
  · rw [if_neg h, if_neg h, val_con 14]
theorem eval_ifs2 (c a : Int) : evalOf (ifE (cE c) (cE a) badE) 0 0 0 0 = if c = 0 then (0, 10) else (a, 0) := by
  unfold evalOf
  rw [if_pos (may_ifE c _ _ (.inr ⟨_, rfl⟩) (.inl rfl)), val_if 14]
  by_cases h : c = 0
  · rw [if_pos h, if_pos h, val_bad 13]
  · rw [if_neg h, if_neg h, val_con 14]
theorem eval_ifs3 (c b : Int) : evalOf (ifE (cE c) badE (cE b)) 0 0 0 0 = if c = 0 then (b, 0) else (0, 10) := by
  unfold evalOf
  rw [if_pos (may_ifE c _ _ (.inl rfl) (.inr ⟨_, rfl⟩)), val_if 14]
  by_cases h : c = 0
  · rw [if_pos h, if_pos h, val_con 14]
  · rw [if_neg h, if_neg h, val_bad 13]
/-- The variable that holds the division by 0, in block g. -/
structure Bad (w0 w : World) (g : Nat) (A : Option Addr) (c : Nat) : Prop where
  b : w.heap[g]? = some (.cells #[.int .i64 9, .int .i64 0, .slice A 2 c] 27 (0, 0))
  l : 2 ≤ c
  r : Kd.C k27 w A 2 [cE 1, cE 0]
  bl : Below w0.heap.size w0 w
theorem Bad.step {w0 w w2 : World} {g : Nat} {A : Option Addr} {c : Nat} (h : Bad w0 w g A c) (hb : Below w.heap.size w w2) : Bad w0 w2 g A c := ⟨blk_below h.b hb, h.l, Kd.C_below h.r hb, below_step h.bl hb⟩
theorem Bad.cells {w0 w : World} {g : Nat} {A : Option Addr} {c : Nat} (h : Bad w0 w g A c) : w.cell? ⟨g, 0, none⟩ = some (.int .i64 9) ∧ w.cell? ⟨g, 1, none⟩ = some (.int .i64 0) ∧ w.cell? ⟨g, 2, none⟩ = some (.slice A 2 c) :=
  ⟨(blk_cell h.b 0).trans rfl, (blk_cell h.b 1).trans rfl, (blk_cell h.b 2).trans rfl⟩
theorem Bad.er {w0 w : World} {g : Nat} {A : Option Addr} {c : Nat} (h : Bad w0 w g A c) : ER w (.agg #[.int .i64 9, .int .i64 0, .slice A 2 c]) badE := ⟨A, c, rfl, h.l, h.r⟩
set_option maxHeartbeats 4000000 in
set_option maxRecDepth 100000 in
theorem ifs_ok (c a b : Int) (w : World) : Calls Try.prog 5 #[.int .i64 c, .int .i64 a, .int .i64 b] w fun e w' => e = .returned (.bool true) ∧ Below w.heap.size w w' := by
  have HB := Aside0.mk (Below.refl w.heap.size w)
  obtain ⟨x, HXV⟩ : ∃ x, Aside0 ((if c = 0 then b else a) = x) := ⟨_, ⟨rfl⟩⟩
  obtain ⟨p, HP⟩ : ∃ p, Aside0 ((if c = 0 then ((0, 10) : Int × Int) else (a, 0)) = p) := ⟨_, ⟨rfl⟩⟩
  obtain ⟨q, HQ⟩ : ∃ q, Aside0 ((if c = 0 then ((b, 0) : Int × Int) else (0, 10)) = q) := ⟨_, ⟨rfl⟩⟩
  obtain ⟨p1, p2⟩ := p
  obtain ⟨q1, q2⟩ := q
  go_enter Try.func5, Try.ntmps5
  go_wp2_with fail
  refine (tidemilllaw04_shown.calls true _ rfl).mono ?_
  rintro e w1 ⟨rfl, hb_⟩
  replace HB := Aside0.mk (below_step HB.out hb_)
  clear hb_
  go_wp2_with fail
  refine (con_is 1 _).mono ?_
  rintro e w2 ⟨rfl, hb_⟩
  replace HB := Aside0.mk (below_step HB.out hb_)
  clear hb_
  go_wp2_with fail
  refine (con_is 0 _).mono ?_
  rintro e w3 ⟨rfl, hb_⟩
  replace HB := Aside0.mk (below_step HB.out hb_)
  clear hb_
  go_wp2_with fail
  refine (two_ER 9 _ _ (cE 1) (cE 0) _ (ER.leaf _ 1 1) (ER.leaf _ 1 0)).mono ?_
  rintro e w4 ⟨v, rfl, k_, hb_⟩
  obtain ⟨AB, cB, rfl, l_, r_⟩ := k_
  have HX : Aside0 (Bad w (w4.alloc (.cells #[.int .i64 9, .int .i64 0, .slice AB 2 cB] 27)) w4.heap.size AB cB) :=
    ⟨⟨blk_new _ _, l_, Kd.C_below r_ (below_alloc (Below.refl _ _) _), below_alloc (below_step HB.out hb_) _⟩⟩
  clear HB hb_ l_ r_
  go_wp2_with fail
  refine (con_is c _).mono ?_
  rintro e w5 ⟨rfl, hb_⟩
  replace HX := Aside0.mk (HX.out.step hb_)
  clear hb_
  go_wp2_with fail
  refine (con_is a _).mono ?_
  rintro e w6 ⟨rfl, hb_⟩
  replace HX := Aside0.mk (HX.out.step hb_)
  clear hb_
  go_wp2_with fail
  refine (con_is b _).mono ?_
  rintro e w7 ⟨rfl, hb_⟩
  replace HX := Aside0.mk (HX.out.step hb_)
  clear hb_
  have hx := eval_ifs c a b
  rw [HXV.out] at hx
  have HE := Aside0.mk hx
  clear hx
  have HY : Aside0 (evalOf (ifE (cE c) (cE a) badE) 0 0 0 0 = (p1, p2)) := ⟨by rw [eval_ifs2, HP.out]⟩
  have HZ : Aside0 (evalOf (ifE (cE c) badE (cE b)) 0 0 0 0 = (q1, q2)) := ⟨by rw [eval_ifs3, HQ.out]⟩
  have kE : Aside0 (ER (w7.alloc (.cells #[.int .i64 1, .int .i64 c, .slice none 0 0, .int .i64 1, .int .i64 a, .slice none 0 0, .int .i64 1, .int .i64 b, .slice none 0 0] 27)) (.agg #[.int .i64 13, .int .i64 0, .slice (some ⟨w7.heap.size, 0, none⟩) 3 3]) (ifE (cE c) (cE a) (cE b))) :=
    ⟨lit_ER w7 13 0 [cE c, cE a, cE b] _ (rep_leaf 1 c (rep_leaf 1 a (rep_leaf 1 b (Reps.none _ _)))) (by simp)⟩
  go_wp2_with fail
  refine (eval_ER _ _ 0 0 0 0 (x, 0) _ kE.out HE.out).mono ?_
  rintro e w8 ⟨rfl, hb_⟩
  replace HX := Aside0.mk (HX.out.step (below_step (below_alloc (Below.refl _ _) _) hb_))
  clear hb_ kE HE
  go_upto_region 4 with fail
  refine start_ (n := 14) (S := fun w' => Below w8.heap.size w8 w') (ds := []) #[false, false, false, false, false, false, false, false, false, false, false, false, false, false] (by kernel_rfl) rfl rfl (below_drew (Below.refl _ _)) (fun hHeld => ?_)
  refine pure_ (i := 0) (N := some 34) (v := ?_) (a' := ?_) #[true, false, false, false, false, false, false, false, false, false, false, false, false, false] rfl rfl (by kernel_rfl) (fun _ _ _ h => h) (Or.inl ⟨by rfl, ?_⟩) ?_ ?_
  rotate_left
  · intro w'
    go_simp
    with_reducible rfl
  rotate_left
  · simp only [Act.put, List.setIfInBounds_toArray, List.set_cons_zero, List.set_cons_succ, i64_w, i32_w]
    rfl
  refine pure_ (i := 2) (N := some 36) (v := ?_) (a' := ?_) #[true, false, true, false, false, false, false, false, false, false, false, false, false, false] rfl rfl (by kernel_rfl) (fun _ _ _ h => h) (Or.inl ⟨by rfl, ?_⟩) ?_ ?_
  rotate_left
  · intro w'
    go_simp
    with_reducible rfl
  rotate_left
  · simp only [Act.put, List.setIfInBounds_toArray, List.set_cons_zero, List.set_cons_succ, i64_w, i32_w]
    rfl
  refine pure_ (i := 7) (N := some 41) (v := ?_) (a' := ?_) #[true, false, true, false, false, false, false, true, false, false, false, false, false, false] rfl rfl (by kernel_rfl) (fun _ _ _ h => h) (Or.inl ⟨by rfl, ?_⟩) ?_ ?_
  rotate_left
  · intro w'
    go_simp
    with_reducible rfl
  rotate_left
  · simp only [Act.put, List.setIfInBounds_toArray, List.set_cons_zero, List.set_cons_succ, i64_w, i32_w]
    rfl
  refine take_ (i := 4) (N := some 38) (v := ?_) (a' := ?_) #[true, false, true, false, true, false, false, true, false, false, false, false, false, false] rfl rfl (by kernel_rfl) (fun _ _ _ h => h) (Or.inl ⟨by rfl, ?_⟩) hHeld ?_ ?_
  rotate_left
  · intro w' hS
    obtain ⟨c1_, c2_, c3_⟩ := (HX.out.step hS).cells
    go_simp
    with_reducible rfl
  rotate_left
  · simp only [Act.put, List.setIfInBounds_toArray, List.set_cons_zero, List.set_cons_succ, i64_w, i32_w]
    rfl
  refine mono_ (l := #[true, false, true, false, true, false, false, true, false, false, false, false, false, false]) [⟨1, 35, []⟩, ⟨3, 37, [1]⟩] #[true, true, true, true, true, false, false, true, false, false, false, false, false, false] (fun s v w_ => (s = 35 → ER w_ v (cE c)) ∧ (s = 37 → ER w_ v (cE a)) ∧ True) (fun w_ => Below w8.heap.size w8 w_) 8 (by kernel_rfl) (by kernel_rfl) ?_ (fun _ h => h) hHeld ?_ ?_ ?_
  · simp
  · intro s v w_ w2_ h hb
    exact ⟨fun e => (h.1 e).below hb, fun e => (h.2.1 e).below hb, trivial⟩
  · intro c hc a2 w2_ hG hbase hdep
    simp only [List.mem_cons, List.not_mem_nil, or_false] at hc
    rcases hc with rfl | rfl
    · skip
      have e34 := (hbase 34 (by simp)).trans (rfl : _ = some (.int .i64 c : Value))
      refine wpOp_mono (fun a3 w3_ h => ?_) (callM_ (w0 := w8) (T := fun v w_ => ER w_ v (cE c)) (by rfl) rfl rfl Try.func16 (by kernel_rfl) rfl #[.int .i64 c] rfl (by simp only [List.map_toArray, List.map_cons, List.map_nil, eval_tmp e34, eval_const]) hG (con_ER c w2_))
      obtain ⟨v, h1, h2, h3, h4⟩ := h
      exact ⟨v, h1, ⟨fun _ => h2, fun e => absurd e (by decide), trivial⟩, h3, h4⟩
    · skip
      have e36 := (hbase 36 (by simp)).trans (rfl : _ = some (.int .i64 a : Value))
      refine wpOp_mono (fun a3 w3_ h => ?_) (callM_ (w0 := w8) (T := fun v w_ => ER w_ v (cE a)) (by rfl) rfl rfl Try.func16 (by kernel_rfl) rfl #[.int .i64 a] rfl (by simp only [List.map_toArray, List.map_cons, List.map_nil, eval_tmp e36, eval_const]) hG (con_ER a w2_))
      obtain ⟨v, h1, h2, h3, h4⟩ := h
      exact ⟨v, h1, ⟨fun e => absurd e (by decide), fun _ => h2, trivial⟩, h3, h4⟩
  intro vs w2_ hG_ hT_
  have k35 := (hT_ ⟨1, 35, []⟩ (by simp)).1 rfl
  have k37 := (hT_ ⟨3, 37, [1]⟩ (by simp)).2.1 rfl
  clear hT_ hHeld
  have hHeld := hG_
  refine norm_ (a' := ?_) ?_ ?_
  rotate_left
  · simp only [putAll, List.map_cons, List.map_nil, Act.put, List.setIfInBounds_toArray, List.set_cons_zero, List.set_cons_succ]
    rfl
  generalize vs 35 = v35 at k35 ⊢
  generalize vs 37 = v37 at k37 ⊢
  refine one_ (i := 5) (N := some 39) #[true, true, true, true, true, true, false, true, false, false, false, false, false, false] rfl rfl (by kernel_rfl) (by simp) (fun K hK => ?_)
  obtain ⟨A35, c35, rfl, l35, r35⟩ := k35
  obtain ⟨A37, c37, rfl, l37, r37⟩ := k37
  refine value_ (w1 := w2_.alloc (.cells #[.int .i64 1, .int .i64 c, .slice A35 0 c35, .int .i64 1, .int .i64 a, .slice A37 0 c37, .int .i64 9, .int .i64 0, .slice AB 2 cB] 27)) (v := .slice (some ⟨w2_.heap.size, 0, none⟩) 3 3) (by rfl) rfl (by go_simp; rfl) ?_
  have hb_ := below_alloc (Below.refl w2_.heap.size w2_) (.cells #[.int .i64 1, .int .i64 c, .slice A35 0 c35, .int .i64 1, .int .i64 a, .slice A37 0 c37, .int .i64 9, .int .i64 0, .slice AB 2 cB] 27)
  have kE : ER (w2_.alloc (.cells #[.int .i64 1, .int .i64 c, .slice A35 0 c35, .int .i64 1, .int .i64 a, .slice A37 0 c37, .int .i64 9, .int .i64 0, .slice AB 2 cB] 27)) (.agg #[.int .i64 13, .int .i64 0, .slice (some ⟨w2_.heap.size, 0, none⟩) 3 3]) (ifE (cE c) (cE a) (badE)) := lit_ER w2_ 13 0 [cE c, cE a, badE] _ (rep_E (cE c) A35 c35 (rep_E (cE a) A37 c37 (rep_E (badE) AB cB (Reps.none _ _) (HX.out.step hHeld).l (HX.out.step hHeld).r) l37 r37) l35 r35) (by simp)
  replace hb_ := below_step hHeld hb_
  refine hK.out _ _ hb_ (fun _ => ?_)
  clear hK K
  refine norm_ (a' := ?_) ?_ ?_
  rotate_left
  · show Act.put _ (some 39) _ = _
    simp only [Act.put, List.setIfInBounds_toArray, List.set_cons_zero, List.set_cons_succ, i64_w, i32_w]
    rfl
  replace hHeld := hb_
  clear hb_
  refine pure_ (i := 6) (N := some 40) (v := ?_) (a' := ?_) #[true, true, true, true, true, true, true, true, false, false, false, false, false, false] rfl rfl (by kernel_rfl) (fun _ _ _ h => h) (Or.inl ⟨by rfl, ?_⟩) ?_ ?_
  rotate_left
  · intro w'
    go_simp
    with_reducible rfl
  rotate_left
  · simp only [Act.put, List.setIfInBounds_toArray, List.set_cons_zero, List.set_cons_succ, i64_w, i32_w]
    rfl
  refine one_ (i := 8) (N := some 42) #[true, true, true, true, true, true, true, true, true, false, false, false, false, false] rfl rfl (by kernel_rfl) (by simp) (fun K hK => ?_)
  refine goes_ Try.func12 (by kernel_rfl) rfl #[.agg #[.int .i64 13, .int .i64 0, .slice (some ⟨w2_.heap.size, 0, none⟩) 3 3], .agg #[.int .i64 0, .int .i64 0, .int .i64 0], .int .i64 0] (by rfl) rfl rfl (by simp only [List.map_toArray, List.map_cons, List.map_nil]; rfl) ?_
  with_reducible refine (eval_ER _ _ 0 0 0 0 (p1, p2) _ kE HY.out).mono ?_
  rintro e_ w9 ⟨rfl, hb_⟩
  refine ⟨_, rfl, ?_⟩
  replace hb_ := below_step hHeld hb_
  refine hK.out _ _ hb_ (fun _ => ?_)
  clear hK K
  refine norm_ (a' := ?_) ?_ ?_
  rotate_left
  · show Act.put _ (some 42) _ = _
    simp only [Act.put, List.setIfInBounds_toArray, List.set_cons_zero, List.set_cons_succ, i64_w, i32_w]
    rfl
  have HX2 := Aside0.mk (HX.out.step hb_)
  clear hb_
  refine pure_ (i := 9) (N := some 33) (v := ?_) (a' := ?_) #[true, true, true, true, true, true, true, true, true, true, false, false, false, false] rfl rfl (by kernel_rfl) (fun _ _ _ h => h) (Or.inl ⟨by rfl, ?_⟩) ?_ ?_
  rotate_left
  · intro w'
    go_simp
    with_reducible rfl
  rotate_left
  · simp only [Act.put, List.setIfInBounds_toArray, List.set_cons_zero, List.set_cons_succ, i64_w, i32_w]
    rfl
  refine pure_ (i := 10) (N := some 43) (v := ?_) (a' := ?_) #[true, true, true, true, true, true, true, true, true, true, true, false, false, false] rfl rfl (by kernel_rfl) (fun _ _ _ h => h) (Or.inl ⟨by rfl, ?_⟩) ?_ ?_
  rotate_left
  · intro w'
    go_simp
    with_reducible rfl
  rotate_left
  · simp only [Act.put, List.setIfInBounds_toArray, List.set_cons_zero, List.set_cons_succ, i64_w, i32_w]
    rfl
  refine pure_ (i := 11) (N := some 44) (v := ?_) (a' := ?_) #[true, true, true, true, true, true, true, true, true, true, true, true, false, false] rfl rfl (by kernel_rfl) (fun _ _ _ h => h) (Or.inl ⟨by rfl, ?_⟩) ?_ ?_
  rotate_left
  · intro w'
    go_simp
    with_reducible rfl
  rotate_left
  · simp only [Act.put, List.setIfInBounds_toArray, List.set_cons_zero, List.set_cons_succ, i64_w, i32_w]
    rfl
  refine pure_ (i := 12) (N := some 11) (v := ?_) (a' := ?_) #[true, true, true, true, true, true, true, true, true, true, true, true, true, false] rfl rfl (by kernel_rfl) (fun _ _ _ h => h) (Or.inl ⟨by rfl, ?_⟩) ?_ ?_
  rotate_left
  · intro w'
    go_simp
    with_reducible rfl
  rotate_left
  · simp only [Act.put, List.setIfInBounds_toArray, List.set_cons_zero, List.set_cons_succ, i64_w, i32_w]
    rfl
  refine pure_ (i := 13) (N := some 12) (v := ?_) (a' := ?_) #[true, true, true, true, true, true, true, true, true, true, true, true, true, true] rfl rfl (by kernel_rfl) (fun _ _ _ h => h) (Or.inl ⟨by rfl, ?_⟩) ?_ ?_
  rotate_left
  · intro w'
    go_simp
    with_reducible rfl
  rotate_left
  · simp only [Act.put, List.setIfInBounds_toArray, List.set_cons_zero, List.set_cons_succ, i64_w, i32_w]
    rfl
  refine done_ (by kernel_rfl) ?_

  clear HX hG_ hHeld l35 r35 l37 r37 kE HY
  replace HX := HX2
  clear HX2
  go_upto_region 5 with fail
  refine start_ (n := 14) (S := fun w' => Below w9.heap.size w9 w') (ds := []) #[false, false, false, false, false, false, false, false, false, false, false, false, false, false] (by kernel_rfl) rfl rfl (below_drew (Below.refl _ _)) (fun hHeld => ?_)
  refine pure_ (i := 0) (N := some 46) (v := ?_) (a' := ?_) #[true, false, false, false, false, false, false, false, false, false, false, false, false, false] rfl rfl (by kernel_rfl) (fun _ _ _ h => h) (Or.inl ⟨by rfl, ?_⟩) ?_ ?_
  rotate_left
  · intro w'
    go_simp
    with_reducible rfl
  rotate_left
  · simp only [Act.put, List.setIfInBounds_toArray, List.set_cons_zero, List.set_cons_succ, i64_w, i32_w]
    rfl
  refine pure_ (i := 3) (N := some 49) (v := ?_) (a' := ?_) #[true, false, false, true, false, false, false, false, false, false, false, false, false, false] rfl rfl (by kernel_rfl) (fun _ _ _ h => h) (Or.inl ⟨by rfl, ?_⟩) ?_ ?_
  rotate_left
  · intro w'
    go_simp
    with_reducible rfl
  rotate_left
  · simp only [Act.put, List.setIfInBounds_toArray, List.set_cons_zero, List.set_cons_succ, i64_w, i32_w]
    rfl
  refine pure_ (i := 7) (N := some 53) (v := ?_) (a' := ?_) #[true, false, false, true, false, false, false, true, false, false, false, false, false, false] rfl rfl (by kernel_rfl) (fun _ _ _ h => h) (Or.inl ⟨by rfl, ?_⟩) ?_ ?_
  rotate_left
  · intro w'
    go_simp
    with_reducible rfl
  rotate_left
  · simp only [Act.put, List.setIfInBounds_toArray, List.set_cons_zero, List.set_cons_succ, i64_w, i32_w]
    rfl
  refine take_ (i := 2) (N := some 48) (v := ?_) (a' := ?_) #[true, false, true, true, false, false, false, true, false, false, false, false, false, false] rfl rfl (by kernel_rfl) (fun _ _ _ h => h) (Or.inl ⟨by rfl, ?_⟩) hHeld ?_ ?_
  rotate_left
  · intro w' hS
    obtain ⟨c1_, c2_, c3_⟩ := (HX.out.step hS).cells
    go_simp
    with_reducible rfl
  rotate_left
  · simp only [Act.put, List.setIfInBounds_toArray, List.set_cons_zero, List.set_cons_succ, i64_w, i32_w]
    rfl
  refine mono_ (l := #[true, false, true, true, false, false, false, true, false, false, false, false, false, false]) [⟨1, 47, []⟩, ⟨4, 50, [1]⟩] #[true, true, true, true, true, false, false, true, false, false, false, false, false, false] (fun s v w_ => (s = 47 → ER w_ v (cE c)) ∧ (s = 50 → ER w_ v (cE b)) ∧ True) (fun w_ => Below w9.heap.size w9 w_) 8 (by kernel_rfl) (by kernel_rfl) ?_ (fun _ h => h) hHeld ?_ ?_ ?_
  · simp
  · intro s v w_ w2_ h hb
    exact ⟨fun e => (h.1 e).below hb, fun e => (h.2.1 e).below hb, trivial⟩
  · intro c hc a2 w2_ hG hbase hdep
    simp only [List.mem_cons, List.not_mem_nil, or_false] at hc
    rcases hc with rfl | rfl
    · skip
      have e46 := (hbase 46 (by simp)).trans (rfl : _ = some (.int .i64 c : Value))
      refine wpOp_mono (fun a3 w3_ h => ?_) (callM_ (w0 := w9) (T := fun v w_ => ER w_ v (cE c)) (by rfl) rfl rfl Try.func16 (by kernel_rfl) rfl #[.int .i64 c] rfl (by simp only [List.map_toArray, List.map_cons, List.map_nil, eval_tmp e46, eval_const]) hG (con_ER c w2_))
      obtain ⟨v, h1, h2, h3, h4⟩ := h
      exact ⟨v, h1, ⟨fun _ => h2, fun e => absurd e (by decide), trivial⟩, h3, h4⟩
    · skip
      have e49 := (hbase 49 (by simp)).trans (rfl : _ = some (.int .i64 b : Value))
      refine wpOp_mono (fun a3 w3_ h => ?_) (callM_ (w0 := w9) (T := fun v w_ => ER w_ v (cE b)) (by rfl) rfl rfl Try.func16 (by kernel_rfl) rfl #[.int .i64 b] rfl (by simp only [List.map_toArray, List.map_cons, List.map_nil, eval_tmp e49, eval_const]) hG (con_ER b w2_))
      obtain ⟨v, h1, h2, h3, h4⟩ := h
      exact ⟨v, h1, ⟨fun e => absurd e (by decide), fun _ => h2, trivial⟩, h3, h4⟩
  intro vs w2_ hG_ hT_
  have k47 := (hT_ ⟨1, 47, []⟩ (by simp)).1 rfl
  have k50 := (hT_ ⟨4, 50, [1]⟩ (by simp)).2.1 rfl
  clear hT_ hHeld
  have hHeld := hG_
  refine norm_ (a' := ?_) ?_ ?_
  rotate_left
  · simp only [putAll, List.map_cons, List.map_nil, Act.put, List.setIfInBounds_toArray, List.set_cons_zero, List.set_cons_succ]
    rfl
  generalize vs 47 = v47 at k47 ⊢
  generalize vs 50 = v50 at k50 ⊢
  refine one_ (i := 5) (N := some 51) #[true, true, true, true, true, true, false, true, false, false, false, false, false, false] rfl rfl (by kernel_rfl) (by simp) (fun K hK => ?_)
  obtain ⟨A47, c47, rfl, l47, r47⟩ := k47
  obtain ⟨A50, c50, rfl, l50, r50⟩ := k50
  refine value_ (w1 := w2_.alloc (.cells #[.int .i64 1, .int .i64 c, .slice A47 0 c47, .int .i64 9, .int .i64 0, .slice AB 2 cB, .int .i64 1, .int .i64 b, .slice A50 0 c50] 27)) (v := .slice (some ⟨w2_.heap.size, 0, none⟩) 3 3) (by rfl) rfl (by go_simp; rfl) ?_
  have hb_ := below_alloc (Below.refl w2_.heap.size w2_) (.cells #[.int .i64 1, .int .i64 c, .slice A47 0 c47, .int .i64 9, .int .i64 0, .slice AB 2 cB, .int .i64 1, .int .i64 b, .slice A50 0 c50] 27)
  have kE : ER (w2_.alloc (.cells #[.int .i64 1, .int .i64 c, .slice A47 0 c47, .int .i64 9, .int .i64 0, .slice AB 2 cB, .int .i64 1, .int .i64 b, .slice A50 0 c50] 27)) (.agg #[.int .i64 13, .int .i64 0, .slice (some ⟨w2_.heap.size, 0, none⟩) 3 3]) (ifE (cE c) (badE) (cE b)) := lit_ER w2_ 13 0 [cE c, badE, cE b] _ (rep_E (cE c) A47 c47 (rep_E (badE) AB cB (rep_E (cE b) A50 c50 (Reps.none _ _) l50 r50) (HX.out.step hHeld).l (HX.out.step hHeld).r) l47 r47) (by simp)
  replace hb_ := below_step hHeld hb_
  refine hK.out _ _ hb_ (fun _ => ?_)
  clear hK K
  refine norm_ (a' := ?_) ?_ ?_
  rotate_left
  · show Act.put _ (some 51) _ = _
    simp only [Act.put, List.setIfInBounds_toArray, List.set_cons_zero, List.set_cons_succ, i64_w, i32_w]
    rfl
  replace hHeld := hb_
  clear hb_
  refine pure_ (i := 6) (N := some 52) (v := ?_) (a' := ?_) #[true, true, true, true, true, true, true, true, false, false, false, false, false, false] rfl rfl (by kernel_rfl) (fun _ _ _ h => h) (Or.inl ⟨by rfl, ?_⟩) ?_ ?_
  rotate_left
  · intro w'
    go_simp
    with_reducible rfl
  rotate_left
  · simp only [Act.put, List.setIfInBounds_toArray, List.set_cons_zero, List.set_cons_succ, i64_w, i32_w]
    rfl
  refine one_ (i := 8) (N := some 54) #[true, true, true, true, true, true, true, true, true, false, false, false, false, false] rfl rfl (by kernel_rfl) (by simp) (fun K hK => ?_)
  refine goes_ Try.func12 (by kernel_rfl) rfl #[.agg #[.int .i64 13, .int .i64 0, .slice (some ⟨w2_.heap.size, 0, none⟩) 3 3], .agg #[.int .i64 0, .int .i64 0, .int .i64 0], .int .i64 0] (by rfl) rfl rfl (by simp only [List.map_toArray, List.map_cons, List.map_nil]; rfl) ?_
  with_reducible refine (eval_ER _ _ 0 0 0 0 (q1, q2) _ kE HZ.out).mono ?_
  rintro e_ w10 ⟨rfl, hb_⟩
  refine ⟨_, rfl, ?_⟩
  replace hb_ := below_step hHeld hb_
  refine hK.out _ _ hb_ (fun _ => ?_)
  clear hK K
  refine norm_ (a' := ?_) ?_ ?_
  rotate_left
  · show Act.put _ (some 54) _ = _
    simp only [Act.put, List.setIfInBounds_toArray, List.set_cons_zero, List.set_cons_succ, i64_w, i32_w]
    rfl
  have HX2 := Aside0.mk (HX.out.step hb_)
  clear hb_
  refine pure_ (i := 9) (N := some 45) (v := ?_) (a' := ?_) #[true, true, true, true, true, true, true, true, true, true, false, false, false, false] rfl rfl (by kernel_rfl) (fun _ _ _ h => h) (Or.inl ⟨by rfl, ?_⟩) ?_ ?_
  rotate_left
  · intro w'
    go_simp
    with_reducible rfl
  rotate_left
  · simp only [Act.put, List.setIfInBounds_toArray, List.set_cons_zero, List.set_cons_succ, i64_w, i32_w]
    rfl
  refine pure_ (i := 10) (N := some 55) (v := ?_) (a' := ?_) #[true, true, true, true, true, true, true, true, true, true, true, false, false, false] rfl rfl (by kernel_rfl) (fun _ _ _ h => h) (Or.inl ⟨by rfl, ?_⟩) ?_ ?_
  rotate_left
  · intro w'
    go_simp
    with_reducible rfl
  rotate_left
  · simp only [Act.put, List.setIfInBounds_toArray, List.set_cons_zero, List.set_cons_succ, i64_w, i32_w]
    rfl
  refine pure_ (i := 11) (N := some 56) (v := ?_) (a' := ?_) #[true, true, true, true, true, true, true, true, true, true, true, true, false, false] rfl rfl (by kernel_rfl) (fun _ _ _ h => h) (Or.inl ⟨by rfl, ?_⟩) ?_ ?_
  rotate_left
  · intro w'
    go_simp
    with_reducible rfl
  rotate_left
  · simp only [Act.put, List.setIfInBounds_toArray, List.set_cons_zero, List.set_cons_succ, i64_w, i32_w]
    rfl
  refine pure_ (i := 12) (N := some 13) (v := ?_) (a' := ?_) #[true, true, true, true, true, true, true, true, true, true, true, true, true, false] rfl rfl (by kernel_rfl) (fun _ _ _ h => h) (Or.inl ⟨by rfl, ?_⟩) ?_ ?_
  rotate_left
  · intro w'
    go_simp
    with_reducible rfl
  rotate_left
  · simp only [Act.put, List.setIfInBounds_toArray, List.set_cons_zero, List.set_cons_succ, i64_w, i32_w]
    rfl
  refine pure_ (i := 13) (N := some 14) (v := ?_) (a' := ?_) #[true, true, true, true, true, true, true, true, true, true, true, true, true, true] rfl rfl (by kernel_rfl) (fun _ _ _ h => h) (Or.inl ⟨by rfl, ?_⟩) ?_ ?_
  rotate_left
  · intro w'
    go_simp
    with_reducible rfl
  rotate_left
  · simp only [Act.put, List.setIfInBounds_toArray, List.set_cons_zero, List.set_cons_succ, i64_w, i32_w]
    rfl
  refine done_ (by kernel_rfl) ?_

  clear HX hG_ hHeld l47 r47 l50 r50 kE HZ
  have HBL := Aside0.mk HX2.out.bl
  clear HX2
  by_cases hc : c = 0
  · have hp := HP.out
    have hq := HQ.out
    have hx := HXV.out
    rw [if_pos hc] at hp hq hx
    injection hp with hp1 hp2
    injection hq with hq1 hq2
    subst hp1 hp2 hq1 hq2 hx hc
    clear HP HQ HXV
    go_wp2
    go_ret
    exact ⟨rfl, HBL.out⟩
  · have hp := HP.out
    have hq := HQ.out
    have hx := HXV.out
    rw [if_neg hc] at hp hq hx
    injection hp with hp1 hp2
    injection hq with hq1 hq2
    have g1 : (c == 0) = false := beq_eq_false_iff_ne.2 hc
    have g2 : (c != 0) = true := bne_iff_ne.2 hc
    clear HP HQ HXV
    subst hp1 hp2 hq1 hq2 hx
    clear hc
    go_wp2
    go_ret
    exact ⟨rfl, HBL.out⟩
end Go.Proofs.Ytpcbcekfakjgkaa.Ex
