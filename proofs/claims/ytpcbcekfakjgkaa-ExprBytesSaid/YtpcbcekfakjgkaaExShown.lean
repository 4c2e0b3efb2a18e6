/- The document's examples: chapter 04's shown. -/
import Derived.Test.YtpcbcekfakjgkaaEr
import Derived.Deep.QuietTactic
import Derived.BigQuiet
namespace Go.Proofs.Ytpcbcekfakjgkaa.Ex
open Go Go.RowKit Go.Proofs.YtpcbcekfakjgkaaW.PrintWords Go.Proofs.YtpcbcekfakjgkaaW.PrintLast Go.Proofs.YtpcbcekfakjgkaaW.PrintMore Go.Proofs.Ytpcbcekfakjgkaa.Mono
set_option linter.unusedVariables false
set_option linter.unusedSimpArgs false
def tidemilllaw04_shown.f : Option Bool := some true
def cE (n : Int) : E := ⟨1, n, []⟩
def opE (op : Int) (a b : E) : E := ⟨op, 0, [a, b]⟩
def vE : E := ⟨3, 0, []⟩
/-- The frame's two variables. -/
structure Sh (w0 w : World) : Prop where
  b1 : w.heap[w0.heap.size]? = some (.cells #[.int .i64 3, .int .i64 0, .slice none 0 0] 27 (0, 0))
  b2 : w.heap[w0.heap.size + 1]? = some (.cells #[.int .i64 1, .int .i64 3, .int .i64 0] 24 (0, 0))
  bl : Below w0.heap.size w0 w
theorem Sh.step {w0 w w2 : World} (h : Sh w0 w) (hb : Below w.heap.size w w2) : Sh w0 w2 := ⟨blk_below h.b1 hb, blk_below h.b2 hb, below_step h.bl hb⟩
theorem Sh.c1 {w0 w : World} (h : Sh w0 w) : w.cell? ⟨w0.heap.size, 0, none⟩ = some (.int .i64 3) ∧ w.cell? ⟨w0.heap.size, 1, none⟩ = some (.int .i64 0) ∧ w.cell? ⟨w0.heap.size, 2, none⟩ = some (.slice none 0 0) :=
  ⟨(blk_cell h.b1 0).trans rfl, (blk_cell h.b1 1).trans rfl, (blk_cell h.b1 2).trans rfl⟩
theorem Sh.c2 {w0 w : World} (h : Sh w0 w) : w.cell? ⟨w0.heap.size + 1, 0, none⟩ = some (.int .i64 1) ∧ w.cell? ⟨w0.heap.size + 1, 1, none⟩ = some (.int .i64 3) ∧ w.cell? ⟨w0.heap.size + 1, 2, none⟩ = some (.int .i64 0) :=
  ⟨(blk_cell h.b2 0).trans rfl, (blk_cell h.b2 1).trans rfl, (blk_cell h.b2 2).trans rfl⟩
set_option maxHeartbeats 4000000 in
set_option maxRecDepth 100000 in
theorem tidemilllaw04_shown.calls (r : Bool) (w : World) (h : tidemilllaw04_shown.f = some r) : Calls Try.prog 10 #[] w fun e w' => e = .returned (.bool r) ∧ Below w.heap.size w w' := by
  obtain rfl : r = true := (Option.some.inj h).symm
  clear h
  go_enter Try.func10, Try.ntmps10
  go_upto_region 3 with fail
  have HS : Aside0 (Sh w ((w.alloc (.cells #[.int .i64 3, .int .i64 0, .slice none 0 0] 27)).alloc (.cells #[.int .i64 1, .int .i64 3, .int .i64 0] 24))) :=
    ⟨⟨blk_alloc (blk_new w _) _, by have := blk_new (w.alloc (.cells #[.int .i64 3, .int .i64 0, .slice none 0 0] 27)) (.cells #[.int .i64 1, .int .i64 3, .int .i64 0] 24); simpa using this, below_alloc (below_alloc (Below.refl _ _) _) _⟩⟩
  generalize (w.alloc (.cells #[.int .i64 3, .int .i64 0, .slice none 0 0] 27)).alloc (.cells #[.int .i64 1, .int .i64 3, .int .i64 0] 24) = w1 at HS ⊢
  refine start_ (n := 12) (S := fun w' => Below w1.heap.size w1 w') (ds := []) #[false, false, false, false, false, false, false, false, false, false, false, false] (by kernel_rfl) rfl rfl (below_drew (Below.refl _ _)) (fun hHeld => ?_)
  refine take_ (i := 2) (N := some 14) (v := ?_) (a' := ?_) #[false, false, true, false, false, false, false, false, false, false, false, false] rfl rfl (by kernel_rfl) (fun _ _ _ h => h) (Or.inl ⟨by rfl, ?_⟩) hHeld ?_ ?_
  rotate_left
  · intro w' hS
    obtain ⟨c1_, c2_, c3_⟩ := (HS.out.step hS).c1
    go_simp
    with_reducible rfl
  rotate_left
  · simp only [Act.put, List.setIfInBounds_toArray, List.set_cons_zero, List.set_cons_succ, i64_w, i32_w]
    rfl
  refine take_ (i := 5) (N := some 17) (v := ?_) (a' := ?_) #[false, false, true, false, false, true, false, false, false, false, false, false] rfl rfl (by kernel_rfl) (fun _ _ _ h => h) (Or.inl ⟨by rfl, ?_⟩) hHeld ?_ ?_
  rotate_left
  · intro w' hS
    obtain ⟨c1_, c2_, c3_⟩ := (HS.out.step hS).c2
    go_simp
    with_reducible rfl
  rotate_left
  · simp only [Act.put, List.setIfInBounds_toArray, List.set_cons_zero, List.set_cons_succ, i64_w, i32_w]
    rfl
  refine mono_ (l := #[false, false, true, false, false, true, false, false, false, false, false, false]) [⟨0, 12, []⟩, ⟨1, 13, [0]⟩, ⟨3, 15, [1]⟩, ⟨4, 16, [0, 3]⟩] #[true, true, true, true, true, true, false, false, false, false, false, false] (fun s v w_ => (s = 12 → ER w_ v (cE 1)) ∧ (s = 13 → ER w_ v (cE 2)) ∧ (s = 15 → ER w_ v (opE 8 (cE 2) vE)) ∧ (s = 16 → ER w_ v (opE 6 (cE 1) (opE 8 (cE 2) vE))) ∧ True) (fun w_ => Below w1.heap.size w1 w_) 6 (by kernel_rfl) (by kernel_rfl) ?_ (fun _ h => h) hHeld ?_ ?_ ?_
  · simp
  · intro s v w_ w2_ h hb
    exact ⟨fun e => (h.1 e).below hb, fun e => (h.2.1 e).below hb, fun e => (h.2.2.1 e).below hb, fun e => (h.2.2.2.1 e).below hb, trivial⟩
  · intro c hc a2 w2_ hG hbase hdep
    simp only [List.mem_cons, List.not_mem_nil, or_false] at hc
    rcases hc with rfl | rfl | rfl | rfl
    · skip
      refine wpOp_mono (fun a3 w3_ h => ?_) (callM_ (w0 := w1) (T := fun v w_ => ER w_ v (cE 1)) (by rfl) rfl rfl Try.func16 (by kernel_rfl) rfl #[.int .i64 1] rfl (by simp only [List.map_toArray, List.map_cons, List.map_nil, eval_const]) hG (con_ER 1 w2_))
      obtain ⟨v, h1, h2, h3, h4⟩ := h
      exact ⟨v, h1, ⟨fun _ => h2, fun e => absurd e (by decide), fun e => absurd e (by decide), fun e => absurd e (by decide), trivial⟩, h3, h4⟩
    · skip
      refine wpOp_mono (fun a3 w3_ h => ?_) (callM_ (w0 := w1) (T := fun v w_ => ER w_ v (cE 2)) (by rfl) rfl rfl Try.func16 (by kernel_rfl) rfl #[.int .i64 2] rfl (by simp only [List.map_toArray, List.map_cons, List.map_nil, eval_const]) hG (con_ER 2 w2_))
      obtain ⟨v, h1, h2, h3, h4⟩ := h
      exact ⟨v, h1, ⟨fun e => absurd e (by decide), fun _ => h2, fun e => absurd e (by decide), fun e => absurd e (by decide), trivial⟩, h3, h4⟩
    · skip
      obtain ⟨v13, e13, k_⟩ := hdep ⟨1, 13, [0]⟩ (by simp) (by simp)
      have k13 : ER w2_ v13 (cE 2) := k_.2.1 rfl
      have e14 := (hbase 14 (by simp)).trans (rfl : _ = some (.agg #[.int .i64 3, .int .i64 0, .slice none 0 0] : Value))
      refine wpOp_mono (fun a3 w3_ h => ?_) (callM_ (w0 := w1) (T := fun v w_ => ER w_ v (opE 8 (cE 2) vE)) (by rfl) rfl rfl Try.func11 (by kernel_rfl) rfl #[.int .i64 8, v13, .agg #[.int .i64 3, .int .i64 0, .slice none 0 0]] rfl (by simp only [List.map_toArray, List.map_cons, List.map_nil, eval_tmp e13, eval_tmp e14, eval_const]) hG (two_ER 8 v13 _ (cE 2) vE w2_ k13 (ER.leaf _ 3 0)))
      obtain ⟨v, h1, h2, h3, h4⟩ := h
      exact ⟨v, h1, ⟨fun e => absurd e (by decide), fun e => absurd e (by decide), fun _ => h2, fun e => absurd e (by decide), trivial⟩, h3, h4⟩
    · skip
      obtain ⟨v12, e12, k_⟩ := hdep ⟨0, 12, []⟩ (by simp) (by simp)
      have k12 : ER w2_ v12 (cE 1) := k_.1 rfl
      obtain ⟨v15, e15, k_⟩ := hdep ⟨3, 15, [1]⟩ (by simp) (by simp)
      have k15 : ER w2_ v15 (opE 8 (cE 2) vE) := k_.2.2.1 rfl
      refine wpOp_mono (fun a3 w3_ h => ?_) (callM_ (w0 := w1) (T := fun v w_ => ER w_ v (opE 6 (cE 1) (opE 8 (cE 2) vE))) (by rfl) rfl rfl Try.func11 (by kernel_rfl) rfl #[.int .i64 6, v12, v15] rfl (by simp only [List.map_toArray, List.map_cons, List.map_nil, eval_tmp e12, eval_tmp e15, eval_const]) hG (two_ER 6 v12 v15 _ _ w2_ k12 k15))
      obtain ⟨v, h1, h2, h3, h4⟩ := h
      exact ⟨v, h1, ⟨fun e => absurd e (by decide), fun e => absurd e (by decide), fun e => absurd e (by decide), fun _ => h2, trivial⟩, h3, h4⟩
  intro vs w2_ hG_ hT_
  have k12 := (hT_ ⟨0, 12, []⟩ (by simp)).1 rfl
  have k13 := (hT_ ⟨1, 13, [0]⟩ (by simp)).2.1 rfl
  have k15 := (hT_ ⟨3, 15, [1]⟩ (by simp)).2.2.1 rfl
  have k16 := (hT_ ⟨4, 16, [0, 3]⟩ (by simp)).2.2.2.1 rfl
  clear hT_ hHeld
  have hHeld := hG_
  refine norm_ (a' := ?_) ?_ ?_
  rotate_left
  · simp only [putAll, List.map_cons, List.map_nil, Act.put, List.setIfInBounds_toArray, List.set_cons_zero, List.set_cons_succ]
    rfl
  generalize vs 12 = v12 at k12 ⊢
  generalize vs 13 = v13 at k13 ⊢
  generalize vs 15 = v15 at k15 ⊢
  generalize vs 16 = v16 at k16 ⊢
  refine one_ (i := 6) (N := some 18) #[true, true, true, true, true, true, true, false, false, false, false, false] rfl rfl (by kernel_rfl) (by simp) (fun K hK => ?_)
  refine goes_ Try.func12 (by kernel_rfl) rfl #[v16, .agg #[.int .i64 1, .int .i64 3, .int .i64 0], .int .i64 0] (by rfl) rfl rfl (by simp only [List.map_toArray, List.map_cons, List.map_nil]; rfl) ?_
  with_reducible refine (eval_ER v16 _ 1 3 0 0 (7, 0) _ k16 (by decide +kernel)).mono ?_
  rintro e_ w2 ⟨rfl, hb_⟩
  refine ⟨_, rfl, ?_⟩
  replace hb_ := below_step hHeld hb_
  refine hK.out _ _ hb_ (fun _ => ?_)
  clear hK K
  refine norm_ (a' := ?_) ?_ ?_
  rotate_left
  · show Act.put _ (some 18) _ = _
    simp only [Act.put, List.setIfInBounds_toArray, List.set_cons_zero, List.set_cons_succ, i64_w, i32_w]
    rfl
  have HS2 := Aside0.mk (HS.out.step hb_)
  clear hb_
  refine pure_ (i := 7) (N := some 11) (v := ?_) (a' := ?_) #[true, true, true, true, true, true, true, true, false, false, false, false] rfl rfl (by kernel_rfl) (fun _ _ _ h => h) (Or.inl ⟨by rfl, ?_⟩) ?_ ?_
  rotate_left
  · intro w'
    go_simp
    with_reducible rfl
  rotate_left
  · simp only [Act.put, List.setIfInBounds_toArray, List.set_cons_zero, List.set_cons_succ, i64_w, i32_w]
    rfl
  refine pure_ (i := 8) (N := some 19) (v := ?_) (a' := ?_) #[true, true, true, true, true, true, true, true, true, false, false, false] rfl rfl (by kernel_rfl) (fun _ _ _ h => h) (Or.inl ⟨by rfl, ?_⟩) ?_ ?_
  rotate_left
  · intro w'
    go_simp
    with_reducible rfl
  rotate_left
  · simp only [Act.put, List.setIfInBounds_toArray, List.set_cons_zero, List.set_cons_succ, i64_w, i32_w]
    rfl
  refine pure_ (i := 9) (N := some 20) (v := ?_) (a' := ?_) #[true, true, true, true, true, true, true, true, true, true, false, false] rfl rfl (by kernel_rfl) (fun _ _ _ h => h) (Or.inl ⟨by rfl, ?_⟩) ?_ ?_
  rotate_left
  · intro w'
    go_simp
    with_reducible rfl
  rotate_left
  · simp only [Act.put, List.setIfInBounds_toArray, List.set_cons_zero, List.set_cons_succ, i64_w, i32_w]
    rfl
  refine pure_ (i := 10) (N := some 3) (v := ?_) (a' := ?_) #[true, true, true, true, true, true, true, true, true, true, true, false] rfl rfl (by kernel_rfl) (fun _ _ _ h => h) (Or.inl ⟨by rfl, ?_⟩) ?_ ?_
  rotate_left
  · intro w'
    go_simp
    with_reducible rfl
  rotate_left
  · simp only [Act.put, List.setIfInBounds_toArray, List.set_cons_zero, List.set_cons_succ, i64_w, i32_w]
    rfl
  refine pure_ (i := 11) (N := some 4) (v := ?_) (a' := ?_) #[true, true, true, true, true, true, true, true, true, true, true, true] rfl rfl (by kernel_rfl) (fun _ _ _ h => h) (Or.inl ⟨by rfl, ?_⟩) ?_ ?_
  rotate_left
  · intro w'
    go_simp
    with_reducible rfl
  rotate_left
  · simp only [Act.put, List.setIfInBounds_toArray, List.set_cons_zero, List.set_cons_succ, i64_w, i32_w]
    rfl
  refine done_ (by kernel_rfl) ?_

  clear HS k12 k13 k15 k16 hG_ hHeld
  go_upto_region 4 with fail
  replace HS := HS2
  clear HS2
  generalize w2 = w3 at HS ⊢
  refine start_ (n := 12) (S := fun w' => Below w3.heap.size w3 w') (ds := []) #[false, false, false, false, false, false, false, false, false, false, false, false] (by kernel_rfl) rfl rfl (below_drew (Below.refl _ _)) (fun hHeld => ?_)
  refine take_ (i := 1) (N := some 23) (v := ?_) (a' := ?_) #[false, true, false, false, false, false, false, false, false, false, false, false] rfl rfl (by kernel_rfl) (fun _ _ _ h => h) (Or.inl ⟨by rfl, ?_⟩) hHeld ?_ ?_
  rotate_left
  · intro w' hS
    obtain ⟨c1_, c2_, c3_⟩ := (HS.out.step hS).c1
    go_simp
    with_reducible rfl
  rotate_left
  · simp only [Act.put, List.setIfInBounds_toArray, List.set_cons_zero, List.set_cons_succ, i64_w, i32_w]
    rfl
  refine take_ (i := 5) (N := some 27) (v := ?_) (a' := ?_) #[false, true, false, false, false, true, false, false, false, false, false, false] rfl rfl (by kernel_rfl) (fun _ _ _ h => h) (Or.inl ⟨by rfl, ?_⟩) hHeld ?_ ?_
  rotate_left
  · intro w' hS
    obtain ⟨c1_, c2_, c3_⟩ := (HS.out.step hS).c2
    go_simp
    with_reducible rfl
  rotate_left
  · simp only [Act.put, List.setIfInBounds_toArray, List.set_cons_zero, List.set_cons_succ, i64_w, i32_w]
    rfl
  refine mono_ (l := #[false, true, false, false, false, true, false, false, false, false, false, false]) [⟨0, 22, []⟩, ⟨2, 24, [0]⟩, ⟨3, 25, [2]⟩, ⟨4, 26, [0, 3]⟩] #[true, true, true, true, true, true, false, false, false, false, false, false] (fun s v w_ => (s = 22 → ER w_ v (cE 1)) ∧ (s = 24 → ER w_ v (cE 3)) ∧ (s = 25 → ER w_ v (opE 7 vE (cE 3))) ∧ (s = 26 → ER w_ v (opE 9 (cE 1) (opE 7 vE (cE 3)))) ∧ True) (fun w_ => Below w3.heap.size w3 w_) 6 (by kernel_rfl) (by kernel_rfl) ?_ (fun _ h => h) hHeld ?_ ?_ ?_
  · simp
  · intro s v w_ w2_ h hb
    exact ⟨fun e => (h.1 e).below hb, fun e => (h.2.1 e).below hb, fun e => (h.2.2.1 e).below hb, fun e => (h.2.2.2.1 e).below hb, trivial⟩
  · intro c hc a2 w2_ hG hbase hdep
    simp only [List.mem_cons, List.not_mem_nil, or_false] at hc
    rcases hc with rfl | rfl | rfl | rfl
    · skip
      refine wpOp_mono (fun a3 w3_ h => ?_) (callM_ (w0 := w3) (T := fun v w_ => ER w_ v (cE 1)) (by rfl) rfl rfl Try.func16 (by kernel_rfl) rfl #[.int .i64 1] rfl (by simp only [List.map_toArray, List.map_cons, List.map_nil, eval_const]) hG (con_ER 1 w2_))
      obtain ⟨v, h1, h2, h3, h4⟩ := h
      exact ⟨v, h1, ⟨fun _ => h2, fun e => absurd e (by decide), fun e => absurd e (by decide), fun e => absurd e (by decide), trivial⟩, h3, h4⟩
    · skip
      refine wpOp_mono (fun a3 w3_ h => ?_) (callM_ (w0 := w3) (T := fun v w_ => ER w_ v (cE 3)) (by rfl) rfl rfl Try.func16 (by kernel_rfl) rfl #[.int .i64 3] rfl (by simp only [List.map_toArray, List.map_cons, List.map_nil, eval_const]) hG (con_ER 3 w2_))
      obtain ⟨v, h1, h2, h3, h4⟩ := h
      exact ⟨v, h1, ⟨fun e => absurd e (by decide), fun _ => h2, fun e => absurd e (by decide), fun e => absurd e (by decide), trivial⟩, h3, h4⟩
    · skip
      have e23 := (hbase 23 (by simp)).trans (rfl : _ = some (.agg #[.int .i64 3, .int .i64 0, .slice none 0 0] : Value))
      obtain ⟨v24, e24, k_⟩ := hdep ⟨2, 24, [0]⟩ (by simp) (by simp)
      have k24 : ER w2_ v24 (cE 3) := k_.2.1 rfl
      refine wpOp_mono (fun a3 w3_ h => ?_) (callM_ (w0 := w3) (T := fun v w_ => ER w_ v (opE 7 vE (cE 3))) (by rfl) rfl rfl Try.func11 (by kernel_rfl) rfl #[.int .i64 7, .agg #[.int .i64 3, .int .i64 0, .slice none 0 0], v24] rfl (by simp only [List.map_toArray, List.map_cons, List.map_nil, eval_tmp e23, eval_tmp e24, eval_const]) hG (two_ER 7 _ v24 vE (cE 3) w2_ (ER.leaf _ 3 0) k24))
      obtain ⟨v, h1, h2, h3, h4⟩ := h
      exact ⟨v, h1, ⟨fun e => absurd e (by decide), fun e => absurd e (by decide), fun _ => h2, fun e => absurd e (by decide), trivial⟩, h3, h4⟩
    · skip
      obtain ⟨v22, e22, k_⟩ := hdep ⟨0, 22, []⟩ (by simp) (by simp)
      have k22 : ER w2_ v22 (cE 1) := k_.1 rfl
      obtain ⟨v25, e25, k_⟩ := hdep ⟨3, 25, [2]⟩ (by simp) (by simp)
      have k25 : ER w2_ v25 (opE 7 vE (cE 3)) := k_.2.2.1 rfl
      refine wpOp_mono (fun a3 w3_ h => ?_) (callM_ (w0 := w3) (T := fun v w_ => ER w_ v (opE 9 (cE 1) (opE 7 vE (cE 3)))) (by rfl) rfl rfl Try.func11 (by kernel_rfl) rfl #[.int .i64 9, v22, v25] rfl (by simp only [List.map_toArray, List.map_cons, List.map_nil, eval_tmp e22, eval_tmp e25, eval_const]) hG (two_ER 9 v22 v25 _ _ w2_ k22 k25))
      obtain ⟨v, h1, h2, h3, h4⟩ := h
      exact ⟨v, h1, ⟨fun e => absurd e (by decide), fun e => absurd e (by decide), fun e => absurd e (by decide), fun _ => h2, trivial⟩, h3, h4⟩
  intro vs w2_ hG_ hT_
  have k22 := (hT_ ⟨0, 22, []⟩ (by simp)).1 rfl
  have k24 := (hT_ ⟨2, 24, [0]⟩ (by simp)).2.1 rfl
  have k25 := (hT_ ⟨3, 25, [2]⟩ (by simp)).2.2.1 rfl
  have k26 := (hT_ ⟨4, 26, [0, 3]⟩ (by simp)).2.2.2.1 rfl
  clear hT_ hHeld
  have hHeld := hG_
  refine norm_ (a' := ?_) ?_ ?_
  rotate_left
  · simp only [putAll, List.map_cons, List.map_nil, Act.put, List.setIfInBounds_toArray, List.set_cons_zero, List.set_cons_succ]
    rfl
  generalize vs 22 = v22 at k22 ⊢
  generalize vs 24 = v24 at k24 ⊢
  generalize vs 25 = v25 at k25 ⊢
  generalize vs 26 = v26 at k26 ⊢
  refine one_ (i := 6) (N := some 28) #[true, true, true, true, true, true, true, false, false, false, false, false] rfl rfl (by kernel_rfl) (by simp) (fun K hK => ?_)
  refine goes_ Try.func12 (by kernel_rfl) rfl #[v26, .agg #[.int .i64 1, .int .i64 3, .int .i64 0], .int .i64 0] (by rfl) rfl rfl (by simp only [List.map_toArray, List.map_cons, List.map_nil]; rfl) ?_
  with_reducible refine (eval_ER v26 _ 1 3 0 0 (0, 10) _ k26 (by decide +kernel)).mono ?_
  rintro e_ w2 ⟨rfl, hb_⟩
  refine ⟨_, rfl, ?_⟩
  replace hb_ := below_step hHeld hb_
  refine hK.out _ _ hb_ (fun _ => ?_)
  clear hK K
  refine norm_ (a' := ?_) ?_ ?_
  rotate_left
  · show Act.put _ (some 28) _ = _
    simp only [Act.put, List.setIfInBounds_toArray, List.set_cons_zero, List.set_cons_succ, i64_w, i32_w]
    rfl
  have HS2 := Aside0.mk (HS.out.step hb_)
  clear hb_
  refine pure_ (i := 7) (N := some 21) (v := ?_) (a' := ?_) #[true, true, true, true, true, true, true, true, false, false, false, false] rfl rfl (by kernel_rfl) (fun _ _ _ h => h) (Or.inl ⟨by rfl, ?_⟩) ?_ ?_
  rotate_left
  · intro w'
    go_simp
    with_reducible rfl
  rotate_left
  · simp only [Act.put, List.setIfInBounds_toArray, List.set_cons_zero, List.set_cons_succ, i64_w, i32_w]
    rfl
  refine pure_ (i := 8) (N := some 29) (v := ?_) (a' := ?_) #[true, true, true, true, true, true, true, true, true, false, false, false] rfl rfl (by kernel_rfl) (fun _ _ _ h => h) (Or.inl ⟨by rfl, ?_⟩) ?_ ?_
  rotate_left
  · intro w'
    go_simp
    with_reducible rfl
  rotate_left
  · simp only [Act.put, List.setIfInBounds_toArray, List.set_cons_zero, List.set_cons_succ, i64_w, i32_w]
    rfl
  refine pure_ (i := 9) (N := some 30) (v := ?_) (a' := ?_) #[true, true, true, true, true, true, true, true, true, true, false, false] rfl rfl (by kernel_rfl) (fun _ _ _ h => h) (Or.inl ⟨by rfl, ?_⟩) ?_ ?_
  rotate_left
  · intro w'
    go_simp
    with_reducible rfl
  rotate_left
  · simp only [Act.put, List.setIfInBounds_toArray, List.set_cons_zero, List.set_cons_succ, i64_w, i32_w]
    rfl
  refine pure_ (i := 10) (N := some 5) (v := ?_) (a' := ?_) #[true, true, true, true, true, true, true, true, true, true, true, false] rfl rfl (by kernel_rfl) (fun _ _ _ h => h) (Or.inl ⟨by rfl, ?_⟩) ?_ ?_
  rotate_left
  · intro w'
    go_simp
    with_reducible rfl
  rotate_left
  · simp only [Act.put, List.setIfInBounds_toArray, List.set_cons_zero, List.set_cons_succ, i64_w, i32_w]
    rfl
  refine pure_ (i := 11) (N := some 6) (v := ?_) (a' := ?_) #[true, true, true, true, true, true, true, true, true, true, true, true] rfl rfl (by kernel_rfl) (fun _ _ _ h => h) (Or.inl ⟨by rfl, ?_⟩) ?_ ?_
  rotate_left
  · intro w'
    go_simp
    with_reducible rfl
  rotate_left
  · simp only [Act.put, List.setIfInBounds_toArray, List.set_cons_zero, List.set_cons_succ, i64_w, i32_w]
    rfl
  refine done_ (by kernel_rfl) ?_

  clear HS k22 k24 k25 k26 hG_ hHeld
  go_upto_region 5 with fail
  replace HS := HS2
  clear HS2
  generalize w2 = w5 at HS ⊢
  refine start_ (n := 14) (S := fun w' => Below w5.heap.size w5 w') (ds := []) #[false, false, false, false, false, false, false, false, false, false, false, false, false, false] (by kernel_rfl) rfl rfl (below_drew (Below.refl _ _)) (fun hHeld => ?_)
  refine pure_ (i := 0) (N := some 32) (v := ?_) (a' := ?_) #[true, false, false, false, false, false, false, false, false, false, false, false, false, false] rfl rfl (by kernel_rfl) (fun _ _ _ h => h) (Or.inl ⟨by rfl, ?_⟩) ?_ ?_
  rotate_left
  · intro w'
    go_simp
    with_reducible rfl
  rotate_left
  · simp only [Act.put, List.setIfInBounds_toArray, List.set_cons_zero, List.set_cons_succ, i64_w, i32_w]
    rfl
  refine take_ (i := 7) (N := some 39) (v := ?_) (a' := ?_) #[true, false, false, false, false, false, false, true, false, false, false, false, false, false] rfl rfl (by kernel_rfl) (fun _ _ _ h => h) (Or.inl ⟨by rfl, ?_⟩) hHeld ?_ ?_
  rotate_left
  · intro w' hS
    obtain ⟨c1_, c2_, c3_⟩ := (HS.out.step hS).c2
    go_simp
    with_reducible rfl
  rotate_left
  · simp only [Act.put, List.setIfInBounds_toArray, List.set_cons_zero, List.set_cons_succ, i64_w, i32_w]
    rfl
  refine mono_ (l := #[true, false, false, false, false, false, false, true, false, false, false, false, false, false]) [⟨1, 33, []⟩, ⟨2, 34, [1]⟩, ⟨3, 35, [2]⟩, ⟨4, 36, [2, 3]⟩] #[true, true, true, true, true, false, false, true, false, false, false, false, false, false] (fun s v w_ => (s = 33 → ER w_ v (cE 1)) ∧ (s = 34 → ER w_ v (cE 1)) ∧ (s = 35 → ER w_ v (cE 0)) ∧ (s = 36 → ER w_ v (opE 9 (cE 1) (cE 0))) ∧ True) (fun w_ => Below w5.heap.size w5 w_) 8 (by kernel_rfl) (by kernel_rfl) ?_ (fun _ h => h) hHeld ?_ ?_ ?_
  · simp
  · intro s v w_ w2_ h hb
    exact ⟨fun e => (h.1 e).below hb, fun e => (h.2.1 e).below hb, fun e => (h.2.2.1 e).below hb, fun e => (h.2.2.2.1 e).below hb, trivial⟩
  · intro c hc a2 w2_ hG hbase hdep
    simp only [List.mem_cons, List.not_mem_nil, or_false] at hc
    rcases hc with rfl | rfl | rfl | rfl
    · skip
      refine wpOp_mono (fun a3 w3_ h => ?_) (callM_ (w0 := w5) (T := fun v w_ => ER w_ v (cE 1)) (by rfl) rfl rfl Try.func16 (by kernel_rfl) rfl #[.int .i64 1] rfl (by simp only [List.map_toArray, List.map_cons, List.map_nil, eval_const]) hG (con_ER 1 w2_))
      obtain ⟨v, h1, h2, h3, h4⟩ := h
      exact ⟨v, h1, ⟨fun _ => h2, fun e => absurd e (by decide), fun e => absurd e (by decide), fun e => absurd e (by decide), trivial⟩, h3, h4⟩
    · skip
      refine wpOp_mono (fun a3 w3_ h => ?_) (callM_ (w0 := w5) (T := fun v w_ => ER w_ v (cE 1)) (by rfl) rfl rfl Try.func16 (by kernel_rfl) rfl #[.int .i64 1] rfl (by simp only [List.map_toArray, List.map_cons, List.map_nil, eval_const]) hG (con_ER 1 w2_))
      obtain ⟨v, h1, h2, h3, h4⟩ := h
      exact ⟨v, h1, ⟨fun e => absurd e (by decide), fun _ => h2, fun e => absurd e (by decide), fun e => absurd e (by decide), trivial⟩, h3, h4⟩
    · skip
      refine wpOp_mono (fun a3 w3_ h => ?_) (callM_ (w0 := w5) (T := fun v w_ => ER w_ v (cE 0)) (by rfl) rfl rfl Try.func16 (by kernel_rfl) rfl #[.int .i64 0] rfl (by simp only [List.map_toArray, List.map_cons, List.map_nil, eval_const]) hG (con_ER 0 w2_))
      obtain ⟨v, h1, h2, h3, h4⟩ := h
      exact ⟨v, h1, ⟨fun e => absurd e (by decide), fun e => absurd e (by decide), fun _ => h2, fun e => absurd e (by decide), trivial⟩, h3, h4⟩
    · skip
      obtain ⟨v34, e34, k_⟩ := hdep ⟨2, 34, [1]⟩ (by simp) (by simp)
      have k34 : ER w2_ v34 (cE 1) := k_.2.1 rfl
      obtain ⟨v35, e35, k_⟩ := hdep ⟨3, 35, [2]⟩ (by simp) (by simp)
      have k35 : ER w2_ v35 (cE 0) := k_.2.2.1 rfl
      refine wpOp_mono (fun a3 w3_ h => ?_) (callM_ (w0 := w5) (T := fun v w_ => ER w_ v (opE 9 (cE 1) (cE 0))) (by rfl) rfl rfl Try.func11 (by kernel_rfl) rfl #[.int .i64 9, v34, v35] rfl (by simp only [List.map_toArray, List.map_cons, List.map_nil, eval_tmp e34, eval_tmp e35, eval_const]) hG (two_ER 9 v34 v35 _ _ w2_ k34 k35))
      obtain ⟨v, h1, h2, h3, h4⟩ := h
      exact ⟨v, h1, ⟨fun e => absurd e (by decide), fun e => absurd e (by decide), fun e => absurd e (by decide), fun _ => h2, trivial⟩, h3, h4⟩
  intro vs w2_ hG_ hT_
  have k33 := (hT_ ⟨1, 33, []⟩ (by simp)).1 rfl
  have k34 := (hT_ ⟨2, 34, [1]⟩ (by simp)).2.1 rfl
  have k35 := (hT_ ⟨3, 35, [2]⟩ (by simp)).2.2.1 rfl
  have k36 := (hT_ ⟨4, 36, [2, 3]⟩ (by simp)).2.2.2.1 rfl
  clear hT_ hHeld
  have hHeld := hG_
  refine norm_ (a' := ?_) ?_ ?_
  rotate_left
  · simp only [putAll, List.map_cons, List.map_nil, Act.put, List.setIfInBounds_toArray, List.set_cons_zero, List.set_cons_succ]
    rfl
  generalize vs 33 = v33 at k33 ⊢
  generalize vs 34 = v34 at k34 ⊢
  generalize vs 35 = v35 at k35 ⊢
  generalize vs 36 = v36 at k36 ⊢
  refine one_ (i := 5) (N := some 37) #[true, true, true, true, true, true, false, true, false, false, false, false, false, false] rfl rfl (by kernel_rfl) (by simp) (fun K hK => ?_)
  obtain ⟨A33, c33, rfl, l33, r33⟩ := k33
  obtain ⟨A36, c36, rfl, l36, r36⟩ := k36
  refine value_ (w1 := w2_.alloc (.cells #[.int .i64 2, .int .i64 0, .slice none 0 0, .int .i64 1, .int .i64 1, .slice A33 0 c33, .int .i64 9, .int .i64 0, .slice A36 2 c36] 27)) (v := .slice (some ⟨w2_.heap.size, 0, none⟩) 3 3) (by rfl) rfl (by go_simp; rfl) ?_
  have hb_ := below_alloc (Below.refl w2_.heap.size w2_) (.cells #[.int .i64 2, .int .i64 0, .slice none 0 0, .int .i64 1, .int .i64 1, .slice A33 0 c33, .int .i64 9, .int .i64 0, .slice A36 2 c36] 27)
  have k38 : ER (w2_.alloc (.cells #[.int .i64 2, .int .i64 0, .slice none 0 0, .int .i64 1, .int .i64 1, .slice A33 0 c33, .int .i64 9, .int .i64 0, .slice A36 2 c36] 27)) (.agg #[.int .i64 13, .int .i64 0, .slice (some ⟨w2_.heap.size, 0, none⟩) 3 3]) ⟨13, 0, [⟨2, 0, []⟩, cE 1, opE 9 (cE 1) (cE 0)]⟩ := lit_ER w2_ 13 0 [⟨2, 0, []⟩, cE 1, opE 9 (cE 1) (cE 0)] _ (rep_leaf 2 0 (rep_E (cE 1) A33 c33 (rep_E (opE 9 (cE 1) (cE 0)) A36 c36 (Reps.none _ _) l36 r36) l33 r33)) (by simp)
  replace hb_ := below_step hHeld hb_
  refine hK.out _ _ hb_ (fun _ => ?_)
  clear hK K
  refine norm_ (a' := ?_) ?_ ?_
  rotate_left
  · show Act.put _ (some 37) _ = _
    simp only [Act.put, List.setIfInBounds_toArray, List.set_cons_zero, List.set_cons_succ, i64_w, i32_w]
    rfl
  replace hHeld := hb_
  clear hb_
  refine pure_ (i := 6) (N := some 38) (v := ?_) (a' := ?_) #[true, true, true, true, true, true, true, true, false, false, false, false, false, false] rfl rfl (by kernel_rfl) (fun _ _ _ h => h) (Or.inl ⟨by rfl, ?_⟩) ?_ ?_
  rotate_left
  · intro w'
    go_simp
    with_reducible rfl
  rotate_left
  · simp only [Act.put, List.setIfInBounds_toArray, List.set_cons_zero, List.set_cons_succ, i64_w, i32_w]
    rfl
  refine one_ (i := 8) (N := some 40) #[true, true, true, true, true, true, true, true, true, false, false, false, false, false] rfl rfl (by kernel_rfl) (by simp) (fun K hK => ?_)
  refine goes_ Try.func12 (by kernel_rfl) rfl #[.agg #[.int .i64 13, .int .i64 0, .slice (some ⟨w2_.heap.size, 0, none⟩) 3 3], .agg #[.int .i64 1, .int .i64 3, .int .i64 0], .int .i64 0] (by rfl) rfl rfl (by simp only [List.map_toArray, List.map_cons, List.map_nil]; rfl) ?_
  with_reducible refine (eval_ER _ _ 1 3 0 0 (1, 0) _ k38 (by decide +kernel)).mono ?_
  rintro e_ w8 ⟨rfl, hb_⟩
  refine ⟨_, rfl, ?_⟩
  replace hb_ := below_step hHeld hb_
  refine hK.out _ _ hb_ (fun _ => ?_)
  clear hK K
  refine norm_ (a' := ?_) ?_ ?_
  rotate_left
  · show Act.put _ (some 40) _ = _
    simp only [Act.put, List.setIfInBounds_toArray, List.set_cons_zero, List.set_cons_succ, i64_w, i32_w]
    rfl
  have HS2 := Aside0.mk (HS.out.step hb_)
  clear hb_
  refine pure_ (i := 9) (N := some 31) (v := ?_) (a' := ?_) #[true, true, true, true, true, true, true, true, true, true, false, false, false, false] rfl rfl (by kernel_rfl) (fun _ _ _ h => h) (Or.inl ⟨by rfl, ?_⟩) ?_ ?_
  rotate_left
  · intro w'
    go_simp
    with_reducible rfl
  rotate_left
  · simp only [Act.put, List.setIfInBounds_toArray, List.set_cons_zero, List.set_cons_succ, i64_w, i32_w]
    rfl
  refine pure_ (i := 10) (N := some 41) (v := ?_) (a' := ?_) #[true, true, true, true, true, true, true, true, true, true, true, false, false, false] rfl rfl (by kernel_rfl) (fun _ _ _ h => h) (Or.inl ⟨by rfl, ?_⟩) ?_ ?_
  rotate_left
  · intro w'
    go_simp
    with_reducible rfl
  rotate_left
  · simp only [Act.put, List.setIfInBounds_toArray, List.set_cons_zero, List.set_cons_succ, i64_w, i32_w]
    rfl
  refine pure_ (i := 11) (N := some 42) (v := ?_) (a' := ?_) #[true, true, true, true, true, true, true, true, true, true, true, true, false, false] rfl rfl (by kernel_rfl) (fun _ _ _ h => h) (Or.inl ⟨by rfl, ?_⟩) ?_ ?_
  rotate_left
  · intro w'
    go_simp
    with_reducible rfl
  rotate_left
  · simp only [Act.put, List.setIfInBounds_toArray, List.set_cons_zero, List.set_cons_succ, i64_w, i32_w]
    rfl
  refine pure_ (i := 12) (N := some 7) (v := ?_) (a' := ?_) #[true, true, true, true, true, true, true, true, true, true, true, true, true, false] rfl rfl (by kernel_rfl) (fun _ _ _ h => h) (Or.inl ⟨by rfl, ?_⟩) ?_ ?_
  rotate_left
  · intro w'
    go_simp
    with_reducible rfl
  rotate_left
  · simp only [Act.put, List.setIfInBounds_toArray, List.set_cons_zero, List.set_cons_succ, i64_w, i32_w]
    rfl
  refine pure_ (i := 13) (N := some 8) (v := ?_) (a' := ?_) #[true, true, true, true, true, true, true, true, true, true, true, true, true, true] rfl rfl (by kernel_rfl) (fun _ _ _ h => h) (Or.inl ⟨by rfl, ?_⟩) ?_ ?_
  rotate_left
  · intro w'
    go_simp
    with_reducible rfl
  rotate_left
  · simp only [Act.put, List.setIfInBounds_toArray, List.set_cons_zero, List.set_cons_succ, i64_w, i32_w]
    rfl
  refine done_ (by kernel_rfl) ?_

  clear HS hG_ hHeld
  go_wp2
  go_ret
  exact ⟨rfl, HS2.out.bl⟩
end Go.Proofs.Ytpcbcekfakjgkaa.Ex
