/- (c14) A store's insert; Put's question. -/
import Derived.Test.YtpjfmilokadchaaSeGet
namespace Go.Proofs.Ytpjfmilokadchaa.Se
open Go Go.RowKit Go.Proofs.YtpjfmilokadchaaW.PrintWords Go.Proofs.YtpjfmilokadchaaW.PrintLast Go.Proofs.YtpjfmilokadchaaW.PrintMore Go.Proofs.Ytpjfmilokadchaa.Rw Go.Proofs.Ytpjfmilokadchaa.Ex Go.Proofs.Ytpjfmilokadchaa.Mono
set_option linter.unusedVariables false
set_option linter.unusedSimpArgs false
attribute [local go_sem] run_store_span
/-- What a call that may turn the store leaves. -/
def OpPost (base b : Nat) (room gap : Int) (v : Value) (L' : List Ses) (x : Value) (w : World) (e : Ending) (w' : World) : Prop := ∃ v', e = .returned x ∧ SeS w' base b room gap v' L' ∧ Chg w w' (SB b v) ∧ Hat v v' w.heap.size
section
variable {w w1 w2 w3 : World} {base b g : Nat} {room gap : Int} {v v' : Value} {L L' : List Ses}
theorem SeS.mid (h : SeS w base b room gap v L) (hb : Below w.heap.size w w2) (hg : w2.grownBy w3 v.ownBlock) : w3.heap[b]? = some (.cells #[.int .i64 room, .int .i64 gap, v] 49 (0, 0)) := by
  have hk := h.below hb
  exact (hg.block b hk.lt (fun e => by
    obtain ⟨cur, hc⟩ := own_block hk.row e
    exact blk_types hk.cell hc (by decide) rfl)).trans hk.cell
theorem SeS.row' (h : SeS w base b room gap v L) (hb : Below w.heap.size w w2) (hg : w2.grownBy w3 v.ownBlock) (ho : w3.ownsRow base 53 3 v' L'.length (cellsS L')) (hh : Hat v v' w2.heap.size) (h1 : Rise L') (h2 : ∀ x ∈ L', Span x) (h3 : ∀ p ∈ L', In64 p.k ∧ In64 p.v) (h4 : L'.length ≤ 1024) :
    SeS (w3.setCell ⟨b, 2, none⟩ v') base b room gap v' L' ∧ Chg w (w3.setCell ⟨b, 2, none⟩ v') (SB b v) ∧ Hat v v' w.heap.size := by
  have cb := h.mid hb hg
  have hbv' : ∀ k, some k = v'.ownBlock → k ≠ b := fun k e => by
    obtain ⟨cur, hc⟩ := own_block ho e
    exact blk_types hc cb (by decide)
  refine ⟨⟨h.hb, blk_put cb 2 v' rfl, own_kept ho fun k e => Below.heap_setCell w3 ⟨b, 2, none⟩ v' k (hbv' k e), h1, h2, h3, h4, h.most, h.gaps⟩, ?_, hh.lower hb.size⟩
  exact ((Chg.of_below hb).trans ((Chg.of_grown hg).mono fun i hi => .inr hi)).set (.inl rfl) v'
end
theorem idx_le (L : List Ses) (x : Ses) : idxS L x ≤ L.length := (List.takeWhile_sublist _).length_le
theorem ins_at (L : List Ses) (x : Ses) : insS L x = L.take (idxS L x) ++ x :: L.drop (idxS L x) := by
  have h : ∀ (p : Ses → Bool) (M : List Ses), M.take (M.takeWhile p).length = M.takeWhile p ∧ M.drop (M.takeWhile p).length = M.dropWhile p := by
    intro p M
    induction M with
    | nil => exact ⟨rfl, rfl⟩
    | cons y M ih =>
      by_cases hy : p y = true
      · rw [List.takeWhile_cons, if_pos hy, List.dropWhile_cons, if_pos hy]
        simp only [List.length_cons, List.take_succ_cons, List.drop_succ_cons]
        exact ⟨by rw [ih.1], ih.2⟩
      · rw [List.takeWhile_cons, if_neg hy, List.dropWhile_cons, if_neg hy]
        exact ⟨rfl, rfl⟩
  unfold insS idxS
  rw [(h _ L).1, (h _ L).2]
set_option maxHeartbeats 2000000 in
set_option maxRecDepth 100000 in
theorem insert_ok (base b : Nat) (room gap : Int) (v : Value) (L : List Ses) (x : Ses) (w : World) (h : SeS w base b room gap v L) (hbs : base ≤ w.heap.size) (hx : Span x) (hk : In64 x.k ∧ In64 x.v) (hn : ∀ y ∈ L, sameB y x = false) (hl : L.length + 1 ≤ 1024) :
    Calls Try.prog 25 #[.pointer (some ⟨b, 0, none⟩), .agg #[.int .i64 x.k, spanV x.a x.b, .int .i64 x.v]] w (OpPost base b room gap v (insS L x) (.tuple #[]) w) := by
  have HX := Aside0.mk hx
  have HRI := Aside0.mk h.rise
  have HSP := Aside0.mk h.span
  have HK0 := Aside0.mk h
  have HBS0 := Aside0.mk hbs
  obtain ⟨A, c, hv, hnc, hcm⟩ := slice_of h.row
  obtain ⟨n, HN⟩ : ∃ n, Aside0 (L.length = n) := ⟨_, ⟨rfl⟩⟩
  rw [HN.out] at hv hnc
  subst hv
  have hcm2 : c ≤ 9223372036854775807 := Nat.le_trans hcm (by decide)
  obtain ⟨i, HI⟩ : ∃ i, Aside0 (idxS L x = i) := ⟨_, ⟨rfl⟩⟩
  obtain ⟨L2, HL2E⟩ : ∃ M, Aside0 (insS L x = M) := ⟨_, ⟨rfl⟩⟩
  have hn1 : n ≤ 1023 := by have := HN.out; omega
  have HIL : Aside0 (i ≤ n) := ⟨by rw [← HI.out, ← HN.out]; exact idx_le L x⟩
  have HNL : Aside0 (n ≤ 5000) := ⟨by omega⟩
  have HCE : Aside0 ((cellsS L).take (i * 3) ++ [.int .i64 x.k, spanV x.a x.b, .int .i64 x.v] ++ (cellsS L).drop (i * 3) = cellsS L2) := ⟨by
    rw [← HL2E.out, ins_at, HI.out, cellsS_append, ← cellsS_take, ← cellsS_drop]
    show _ = cellsS (L.take i) ++ (_ :: _ :: _ :: cellsS (L.drop i))
    simp⟩
  have HLE : Aside0 (L2.length = n + 1) := ⟨by rw [← HL2E.out, insS_len, HN.out]⟩
  have HR2 : Aside0 (Rise L2) := ⟨by rw [← HL2E.out]; exact rise_ins h.rise hn⟩
  have HS2 : Aside0 (∀ y ∈ L2, Span y) := ⟨fun y hy => by rw [← HL2E.out] at hy; rcases mem_insS.1 hy with rfl | hy; exact hx; exact h.span y hy⟩
  have HK2 : Aside0 (∀ y ∈ L2, In64 y.k ∧ In64 y.v) := ⟨fun y hy => by rw [← HL2E.out] at hy; rcases mem_insS.1 hy with rfl | hy; exact hk; exact h.keys y hy⟩
  have HL2 : Aside0 (L2.length ≤ 1024) := ⟨by rw [HLE.out]; omega⟩
  rw [HL2E.out]
  clear h hbs hx hk hn hl hcm
  go_enter Try.func25, Try.ntmps25
  go_upto_region 1 with fail
  have hbA := below_alloc (Below.refl w.heap.size w) (.cells #[.int .i64 x.k, spanV x.a x.b, .int .i64 x.v] 53)
  have HPB := Aside0.mk (heap_alloc_new w (.cells #[.int .i64 x.k, spanV x.a x.b, .int .i64 x.v] 53))
  have HBA := Aside0.mk hbA
  generalize w.alloc (.cells #[.int .i64 x.k, spanV x.a x.b, .int .i64 x.v] 53) = w1 at HPB HBA hbA ⊢
  obtain ⟨gb, HGB⟩ : ∃ g, Aside0 (w.heap.size = g) := ⟨_, ⟨rfl⟩⟩
  rw [HGB.out] at HPB ⊢
  have HK1 := Aside0.mk (HK0.out.below hbA)
  have HST := Aside0.mk HK1.out.cell
  have HOW : Aside0 (w1.ownsRow base 53 3 (.slice A n c) n (cellsS L)) := ⟨by have := HK1.out.row; rwa [HN.out] at this⟩
  clear hbA
  refine start_ (n := 11) (S := fun w' => Below w1.heap.size w1 w') (ds := []) #[false, false, false, false, false, false, false, false, false, false, false] (by kernel_rfl) rfl rfl (below_drew (Below.refl _ _)) (fun hHeld => ?_)
  refine pure_ (i := 0) (N := some 7) (v := ?_) (a' := ?_) #[true, false, false, false, false, false, false, false, false, false, false] rfl rfl (by kernel_rfl) (fun _ _ _ h => h) (Or.inl ⟨by rfl, ?_⟩) ?_ ?_
  rotate_left
  · intro w'
    go_simp
    with_reducible rfl
  rotate_left
  · simp only [Act.put, List.setIfInBounds_toArray, List.set_cons_zero, List.set_cons_succ, i64_w, i32_w]
    rfl
  refine pure_ (i := 1) (N := some 8) (v := ?_) (a' := ?_) #[true, true, false, false, false, false, false, false, false, false, false] rfl rfl (by kernel_rfl) (fun _ _ _ h => h) (Or.inl ⟨by rfl, ?_⟩) ?_ ?_
  rotate_left
  · intro w'
    go_simp
    with_reducible rfl
  rotate_left
  · simp only [Act.put, List.setIfInBounds_toArray, List.set_cons_zero, List.set_cons_succ, i64_w, i32_w]
    rfl
  refine pure_ (i := 2) (N := some 9) (v := ?_) (a' := ?_) #[true, true, true, false, false, false, false, false, false, false, false] rfl rfl (by kernel_rfl) (fun _ _ _ h => h) (Or.inl ⟨by rfl, ?_⟩) ?_ ?_
  rotate_left
  · intro w'
    go_simp
    with_reducible rfl
  rotate_left
  · simp only [Act.put, List.setIfInBounds_toArray, List.set_cons_zero, List.set_cons_succ, i64_w, i32_w]
    rfl
  refine take_ (i := 3) (N := some 10) (v := ?_) (a' := ?_) #[true, true, true, true, false, false, false, false, false, false, false] rfl rfl (by kernel_rfl) (fun _ _ _ h => h) (Or.inl ⟨by rfl, ?_⟩) hHeld ?_ ?_
  rotate_left
  · intro w' hS
    have s_ := (blk_cell (blk_below HST.out hS) 2).trans (rfl : _ = some (.slice A n c : Value))
    go_simp
    with_reducible rfl
  rotate_left
  · simp only [Act.put, List.setIfInBounds_toArray, List.set_cons_zero, List.set_cons_succ, i64_w, i32_w]
    rfl
  refine take_ (i := 4) (N := some 11) (v := ?_) (a' := ?_) #[true, true, true, true, true, false, false, false, false, false, false] rfl rfl (by kernel_rfl) (fun _ _ _ h => h) (Or.inl ⟨by rfl, ?_⟩) hHeld ?_ ?_
  rotate_left
  · intro w' hS
    have b0_ := (blk_cell (blk_below HPB.out hS) 0).trans (rfl : _ = some (.int .i64 x.k : Value))
    have b1_ := (blk_cell (blk_below HPB.out hS) 1).trans (rfl : _ = some (spanV x.a x.b : Value))
    have b2_ := (blk_cell (blk_below HPB.out hS) 2).trans (rfl : _ = some (.int .i64 x.v : Value))
    go_simp
    with_reducible rfl
  rotate_left
  · simp only [Act.put, List.setIfInBounds_toArray, List.set_cons_zero, List.set_cons_succ, i64_w, i32_w]
    rfl
  refine one_ (i := 5) (N := some 12) #[true, true, true, true, true, true, false, false, false, false, false] rfl rfl (by kernel_rfl) (by simp) (fun K hK => ?_)
  refine goes_ Try.func29 (by kernel_rfl) rfl #[.slice A n c, .agg #[.int .i64 x.k, spanV x.a x.b, .int .i64 x.v], .func (.func 30) #[] #[]] (by rfl) rfl rfl (by simp only [List.map_toArray, List.map_cons, List.map_nil]; rfl) ?_
  with_reducible refine (bs_ok base n c A L x _ HN.out (own_below HOW.out hHeld) HRI.out (by omega) HX.out HSP.out).mono ?_
  rintro e w2 ⟨rfl, hb_⟩
  refine ⟨_, rfl, ?_⟩
  replace hb_ := below_step hHeld hb_
  refine hK.out _ _ hb_ (fun _ => ?_)
  clear hK K
  refine norm_ (a' := ?_) ?_ ?_
  rotate_left
  · show Act.put _ (some 12) _ = _
    simp only [Act.put, List.setIfInBounds_toArray, List.set_cons_zero, List.set_cons_succ, i64_w, i32_w]
    rfl
  replace hHeld := hb_
  rw [HI.out]
  clear hb_
  refine pure_ (i := 6) (N := some 6) (v := ?_) (a' := ?_) #[true, true, true, true, true, true, true, false, false, false, false] rfl rfl (by kernel_rfl) (fun _ _ _ h => h) (Or.inl ⟨by rfl, ?_⟩) ?_ ?_
  rotate_left
  · intro w'
    go_simp
    with_reducible rfl
  rotate_left
  · simp only [Act.put, List.setIfInBounds_toArray, List.set_cons_zero, List.set_cons_succ, i64_w, i32_w]
    rfl
  refine pure_ (i := 7) (N := some 13) (v := ?_) (a' := ?_) #[true, true, true, true, true, true, true, true, false, false, false] rfl rfl (by kernel_rfl) (fun _ _ _ h => h) (Or.inl ⟨by rfl, ?_⟩) ?_ ?_
  rotate_left
  · intro w'
    go_simp
    with_reducible rfl
  rotate_left
  · simp only [Act.put, List.setIfInBounds_toArray, List.set_cons_zero, List.set_cons_succ, i64_w, i32_w]
    rfl
  refine pure_ (i := 8) (N := some 14) (v := ?_) (a' := ?_) #[true, true, true, true, true, true, true, true, true, false, false] rfl rfl (by kernel_rfl) (fun _ _ _ h => h) (Or.inl ⟨by rfl, ?_⟩) ?_ ?_
  rotate_left
  · intro w'
    go_simp
    with_reducible rfl
  rotate_left
  · simp only [Act.put, List.setIfInBounds_toArray, List.set_cons_zero, List.set_cons_succ, i64_w, i32_w]
    rfl
  refine pure_ (i := 9) (N := some 4) (v := ?_) (a' := ?_) #[true, true, true, true, true, true, true, true, true, true, false] rfl rfl (by kernel_rfl) (fun _ _ _ h => h) (Or.inl ⟨by rfl, ?_⟩) ?_ ?_
  rotate_left
  · intro w'
    go_simp
    with_reducible rfl
  rotate_left
  · simp only [Act.put, List.setIfInBounds_toArray, List.set_cons_zero, List.set_cons_succ, i64_w, i32_w]
    rfl
  refine pure_ (i := 10) (N := some 5) (v := ?_) (a' := ?_) #[true, true, true, true, true, true, true, true, true, true, true] rfl rfl (by kernel_rfl) (fun _ _ _ h => h) (Or.inl ⟨by rfl, ?_⟩) ?_ ?_
  rotate_left
  · intro w'
    go_simp
    with_reducible rfl
  rotate_left
  · simp only [Act.put, List.setIfInBounds_toArray, List.set_cons_zero, List.set_cons_succ, i64_w, i32_w]
    rfl
  refine done_ (by kernel_rfl) ?_

  have HB2 := Aside0.mk (below_step HBA.out hHeld)
  replace HST := Aside0.mk (blk_below HST.out hHeld)
  replace HPB := Aside0.mk (blk_below HPB.out hHeld)
  replace HOW := Aside0.mk (own_below HOW.out hHeld)
  have HK := Aside0.mk (HK1.out.below hHeld)
  have HBS : Aside0 (base ≤ w2.heap.size) := ⟨Nat.le_trans HBS0.out HB2.out.size⟩
  clear hHeld HK1
  go_upto_region 2 with fail
  refine start_ (n := 12) (S := fun w' => Below w2.heap.size w2 w') (ds := [8, 11]) #[false, false, false, false, false, false, false, false, false, false, false, false] (by kernel_rfl) rfl rfl (below_drew (Below.refl _ _)) (fun hHeld => ?_)
  refine pure_ (i := 0) (N := some 15) (v := ?_) (a' := ?_) #[true, false, false, false, false, false, false, false, false, false, false, false] rfl rfl (by kernel_rfl) (fun _ _ _ h => h) (Or.inl ⟨by rfl, ?_⟩) ?_ ?_
  rotate_left
  · intro w'
    go_simp
    with_reducible rfl
  rotate_left
  · simp only [Act.put, List.setIfInBounds_toArray, List.set_cons_zero, List.set_cons_succ, i64_w, i32_w]
    rfl
  refine pure_ (i := 1) (N := some 16) (v := ?_) (a' := ?_) #[true, true, false, false, false, false, false, false, false, false, false, false] rfl rfl (by kernel_rfl) (fun _ _ _ h => h) (Or.inl ⟨by rfl, ?_⟩) ?_ ?_
  rotate_left
  · intro w'
    go_simp
    with_reducible rfl
  rotate_left
  · simp only [Act.put, List.setIfInBounds_toArray, List.set_cons_zero, List.set_cons_succ, i64_w, i32_w]
    rfl
  refine pure_ (i := 2) (N := some 17) (v := ?_) (a' := ?_) #[true, true, true, false, false, false, false, false, false, false, false, false] rfl rfl (by kernel_rfl) (fun _ _ _ h => h) (Or.inl ⟨by rfl, ?_⟩) ?_ ?_
  rotate_left
  · intro w'
    go_simp
    with_reducible rfl
  rotate_left
  · simp only [Act.put, List.setIfInBounds_toArray, List.set_cons_zero, List.set_cons_succ, i64_w, i32_w]
    rfl
  refine pure_ (i := 3) (N := some 18) (v := ?_) (a' := ?_) #[true, true, true, true, false, false, false, false, false, false, false, false] rfl rfl (by kernel_rfl) (fun _ _ _ h => h) (Or.inl ⟨by rfl, ?_⟩) ?_ ?_
  rotate_left
  · intro w'
    go_simp
    with_reducible rfl
  rotate_left
  · simp only [Act.put, List.setIfInBounds_toArray, List.set_cons_zero, List.set_cons_succ, i64_w, i32_w]
    rfl
  refine pure_ (i := 5) (N := some 20) (v := ?_) (a' := ?_) #[true, true, true, true, false, true, false, false, false, false, false, false] rfl rfl (by kernel_rfl) (fun _ _ _ h => h) (Or.inl ⟨by rfl, ?_⟩) ?_ ?_
  rotate_left
  · intro w'
    go_simp
    with_reducible rfl
  rotate_left
  · simp only [Act.put, List.setIfInBounds_toArray, List.set_cons_zero, List.set_cons_succ, i64_w, i32_w]
    rfl
  refine take_ (i := 4) (N := some 19) (v := ?_) (a' := ?_) #[true, true, true, true, true, true, false, false, false, false, false, false] rfl rfl (by kernel_rfl) (fun _ _ _ h => h) (Or.inl ⟨by rfl, ?_⟩) hHeld ?_ ?_
  rotate_left
  · intro w' hS
    have s_ := (blk_cell (blk_below HST.out hS) 2).trans (rfl : _ = some (.slice A n c : Value))
    go_simp
    with_reducible rfl
  rotate_left
  · simp only [Act.put, List.setIfInBounds_toArray, List.set_cons_zero, List.set_cons_succ, i64_w, i32_w]
    rfl
  refine take_ (i := 6) (N := some 21) (v := ?_) (a' := ?_) #[true, true, true, true, true, true, true, false, false, false, false, false] rfl rfl (by kernel_rfl) (fun _ _ _ h => h) (Or.inl ⟨by rfl, ?_⟩) hHeld ?_ ?_
  rotate_left
  · intro w' hS
    have b0_ := (blk_cell (blk_below HPB.out hS) 0).trans (rfl : _ = some (.int .i64 x.k : Value))
    have b1_ := (blk_cell (blk_below HPB.out hS) 1).trans (rfl : _ = some (spanV x.a x.b : Value))
    have b2_ := (blk_cell (blk_below HPB.out hS) 2).trans (rfl : _ = some (.int .i64 x.v : Value))
    go_simp
    with_reducible rfl
  rotate_left
  · simp only [Act.put, List.setIfInBounds_toArray, List.set_cons_zero, List.set_cons_succ, i64_w, i32_w]
    rfl
  refine one_ (i := 7) (N := some 22) #[true, true, true, true, true, true, true, true, false, false, false, false] rfl rfl (by kernel_rfl) (by simp) (fun K hK => ?_)
  refine value_ (w1 := (w2.drew).alloc (.cells #[.int .i64 x.k, spanV x.a x.b, .int .i64 x.v] 53)) (v := .slice (some ⟨w2.drew.heap.size, 0, none⟩) 1 1) (by rfl) rfl (by first | (go_simp; done) | (go_simp; rfl)) ?_
  have hb_ := below_alloc (Below.refl w2.drew.heap.size w2.drew) (.cells #[.int .i64 x.k, spanV x.a x.b, .int .i64 x.v] 53)
  have HL := Aside0.mk (heap_alloc_new w2.drew (.cells #[.int .i64 x.k, spanV x.a x.b, .int .i64 x.v] 53))
  obtain ⟨gl, HGL⟩ : ∃ g, Aside0 (w2.drew.heap.size = g) := ⟨_, ⟨rfl⟩⟩
  generalize (w2.drew).alloc (.cells #[.int .i64 x.k, spanV x.a x.b, .int .i64 x.v] 53) = w3 at HL hb_ ⊢
  rw [HGL.out] at HL ⊢
  replace hb_ := below_step hHeld hb_
  refine hK.out _ _ hb_ (fun _ => ?_)
  clear hK K
  refine norm_ (a' := ?_) ?_ ?_
  rotate_left
  · show Act.put _ (some 22) _ = _
    simp only [Act.put, List.setIfInBounds_toArray, List.set_cons_zero, List.set_cons_succ, i64_w, i32_w]
    rfl
  replace hHeld := hb_
  have HK3 := Aside0.mk (HK.out.below hHeld)
  have HOW3 := Aside0.mk (own_below HOW.out hHeld)
  have HNE : Aside0 (some gl ≠ (Value.slice A n c).ownBlock) := ⟨fun e => by have := (HK.out.sb gl (.inr e)).2; have := HGL.out; have e3 : w2.drew.heap.size = w2.heap.size := rfl; omega⟩
  have HBB : Aside0 (base ≤ w3.heap.size) := ⟨Nat.le_trans HBS.out hHeld.size⟩
  clear hb_
  refine last_ (i := 8) (N := some 23) #[true, true, true, true, true, true, true, true, true, false, false, false] rfl rfl (by kernel_rfl) (by simp) (fun K hK => ?_)
  refine goes_ Try.func33 (by kernel_rfl) rfl #[.slice A n c, .int .i64 (i : Int), .slice (some ⟨gl, 0, none⟩) 1 1] (by rfl) rfl rfl (by simp only [List.map_toArray, List.map_cons, List.map_nil]; rfl) ?_
  with_reducible refine (insert_any base n i gl 1 (.slice A n c) (cellsS L) (.int .i64 x.k) (spanV x.a x.b) (.int .i64 x.v) _ HOW3.out cellsS_one HIL.out HL.out HNE.out rfl rfl rfl HBB.out HNL.out).mono ?_
  rintro e w4 ⟨v', rfl, ho, hgr, hh⟩
  refine ⟨_, rfl, ?_⟩
  refine hK.out _ _ ?_
  clear hK K
  refine norm_ (a' := ?_) ?_ ?_
  rotate_left
  · show Act.put _ (some 23) _ = _
    simp only [Act.put, List.setIfInBounds_toArray, List.set_cons_zero, List.set_cons_succ, i64_w, i32_w]
    rfl
  rw [HCE.out, ← HLE.out] at ho
  have HFR := Aside0.mk (HK.out.row' hHeld hgr ho hh HR2.out HS2.out HK2.out HL2.out)
  have hmid := HK.out.mid hHeld hgr
  obtain ⟨A', c', hv', _, _⟩ := slice_of ho
  rw [HLE.out] at hv'
  subst hv'
  have y1 := (blk_cell hmid 2).trans (rfl : _ = some (.slice A n c : Value))
  have y2 := blk_frozen hmid 2
  clear ho hgr hh hmid
  refine pure_ (i := 9) (N := some 24) (v := ?_) (a' := ?_) #[true, true, true, true, true, true, true, true, true, true, false, false] rfl rfl (by kernel_rfl) (fun _ _ _ h => h) (Or.inl ⟨by rfl, ?_⟩) ?_ ?_
  rotate_left
  · intro w'
    go_simp
    with_reducible rfl
  rotate_left
  · simp only [Act.put, List.setIfInBounds_toArray, List.set_cons_zero, List.set_cons_succ, i64_w, i32_w]
    rfl
  refine pure_ (i := 10) (N := some 25) (v := ?_) (a' := ?_) #[true, true, true, true, true, true, true, true, true, true, true, false] rfl rfl (by kernel_rfl) (fun _ _ _ h => h) (Or.inl ⟨by rfl, ?_⟩) ?_ ?_
  rotate_left
  · intro w'
    go_simp
    with_reducible rfl
  rotate_left
  · simp only [Act.put, List.setIfInBounds_toArray, List.set_cons_zero, List.set_cons_succ, i64_w, i32_w]
    rfl
  refine last_ (i := 11) (N := none) #[true, true, true, true, true, true, true, true, true, true, true, true] rfl rfl (by kernel_rfl) (by simp) (fun K hK => ?_)
  refine skip_ (w1 := w4.setCell ⟨b, 2, none⟩ (.slice A' (n + 1) c')) (by rfl) rfl (by first | (go_simp; done) | (go_simp; rfl)) ?_
  refine hK.out _ _ ?_
  clear hK K
  clear y1 y2
  generalize w4.setCell ⟨b, 2, none⟩ (.slice A' (n + 1) c') = w5 at HFR ⊢
  refine done_ (by kernel_rfl) ?_

  have HPost : Aside0 (OpPost base b room gap (.slice A n c) L2 (.tuple #[]) w (.returned (.tuple #[])) w5) := ⟨⟨_, rfl, HFR.out.1, (Chg.of_below HB2.out).trans HFR.out.2.1, HFR.out.2.2.lower HB2.out.size⟩⟩
  go_wp2
  refine bodyPost_ret (v := .tuple #[]) (by simp [results, Try.results25, go_sem]) rfl ?_
  exact HPost.out
end Go.Proofs.Ytpjfmilokadchaa.Se
