/- (c14) A store's Expire, whole. -/
import Derived.Test.YtpjfmilokadchaaSeExp
namespace Go.Proofs.Ytpjfmilokadchaa.Se
open Go Go.RowKit Go.Proofs.YtpjfmilokadchaaW.PrintWords Go.Proofs.YtpjfmilokadchaaW.PrintLast Go.Proofs.YtpjfmilokadchaaW.PrintMore Go.Proofs.Ytpjfmilokadchaa.Rw Go.Proofs.Ytpjfmilokadchaa.Ex Go.Proofs.Ytpjfmilokadchaa.Mono
set_option linter.unusedVariables false
set_option linter.unusedSimpArgs false
attribute [local go_sem] run_store_span
/-- What DeleteFunc leaves within Expire. -/
def ExpD (ws : World) (b g2 g5 : Nat) (room gap before : Int) (v : Value) (L : List Ses) (base n : Nat) (e : Ending) (w' : World) : Prop :=
  ∃ A m c, e = .returned (.slice A m c) ∧ (expL gap before L).length = m ∧ w'.ownsRow base 53 3 (.slice A m c) m (cellsS (expL gap before L)) ∧ (Value.slice A m c).ownBlock = v.ownBlock ∧ Chg ws w' (fun k => SB b v k ∨ ws.heap.size ≤ k) ∧
    w'.heap[b]? = some (.cells #[.int .i64 room, .int .i64 gap, v] 49 (0, 0)) ∧ w'.heap[g2]? = some (.cells #[.pointer (some ⟨b, 0, none⟩)] 25 (0, 0)) ∧ ∃ vo, w'.heap[g5]? = some (.cells #[vo] 29 (0, 0)) ∧ w'.ownsRow ws.heap.size 33 5 vo (expM gap before L).length (cellsC (expM gap before L))
theorem expD_ok (ws : World) (base b g2 g3 g5 : Nat) (room gap before : Int) (v : Value) (L : List Ses) (n : Nat) (hn : L.length = n) (w : World) (hK : SeS w base b room gap v L) (hb : Below ws.heap.size ws w) (hv : ∀ k, some k = v.ownBlock → k < ws.heap.size)
    (h2 : w.heap[g2]? = some (.cells #[.pointer (some ⟨b, 0, none⟩)] 25 (0, 0))) (h3 : w.heap[g3]? = some (.cells #[.int .i64 before] 2 (0, 0))) (h5 : w.heap[g5]? = some (.cells #[.slice none 0 0] 29 (0, 0))) (hg5 : ws.heap.size ≤ g5) :
    Calls Try.prog 27 #[v, .func (.func 28) #[] #[.pointer (some ⟨g2, 0, none⟩), .pointer (some ⟨g3, 0, none⟩), .pointer (some ⟨g5, 0, none⟩)]] w (ExpD ws b g2 g5 room gap before v L base n) := by
  have hrow := hK.row
  rw [hn] at hrow
  rcases hrow.2 with ⟨rfl, e0⟩ | ⟨g, cap, cur, rfl, hbg, hg, hr⟩
  · refine (delS_nil g2 g3 g5 w).mono ?_
    rintro e w' ⟨rfl, rfl⟩
    have : L = [] := List.length_eq_zero_iff.1 (by omega)
    subst this
    exact ⟨_, _, _, rfl, rfl, World.ownsRow_nil _ _ _ _, rfl, Chg.of_below hb, hK.cell, h2, _, h5, World.ownsRow_nil _ _ _ _⟩
  · have hI : ExpI ws g b g2 g3 g5 room gap before (.slice (some ⟨g, 0, none⟩) n cap) L ws.heap.size 0 w := ⟨Chg.of_below hb, hK.cell, h2, h3, ⟨_, h5, World.ownsRow_nil _ _ _ _⟩, hb.size⟩
    refine (delS_ok base n cap g g2 g3 g5 L (endB gap before) (ExpI ws g b g2 g3 g5 room gap before (.slice (some ⟨g, 0, none⟩) n cap) L ws.heap.size) w hn (by have := hK.len; omega) hrow hI (fun t p w1 hp hi => exp1_ok ws g b g2 g3 g5 room gap before _ L ws.heap.size t p w1 hi hp (hK.span p (List.mem_of_getElem? hp)) hK.gaps hK.len hg5) (fun t w1 w2 hi hc hgg => hi.move hc hgg)).mono ?_
    rintro e w' ⟨m, rfl, hk, ho, hi, _⟩
    obtain ⟨vo, h5', hov⟩ := hi.s5
    rw [← hn, List.take_length] at hov
    exact ⟨_, _, _, rfl, hk, ho, rfl, hi.c.mono (fun k hk => by rcases hk with rfl | hk; exact .inl (.inr rfl); exact .inr hk), hi.st, hi.s2, vo, h5', hov⟩
/-- What Expire leaves. -/
def ExpPost (base b : Nat) (room gap : Int) (v : Value) (L' : List Ses) (M : List S33) (w : World) (e : Ending) (w' : World) : Prop :=
  ∃ v' v0, e = .returned v0 ∧ w'.ownsRow w.heap.size 33 5 v0 M.length (cellsC M) ∧ SeS w' base b room gap v' L' ∧ Chg w w' (SB b v) ∧ Hat v v' w.heap.size
set_option maxHeartbeats 4000000 in
set_option maxRecDepth 100000 in
theorem expire_ok (base b : Nat) (room gap before : Int) (v : Value) (L : List Ses) (w : World) (h : SeS w base b room gap v L) (hbs : base ≤ w.heap.size) :
    Calls Try.prog 15 #[.pointer (some ⟨b, 0, none⟩), .int .i64 before] w (ExpPost base b room gap v (expL gap before L) (expM gap before L) w) := by
  have HK0 := Aside0.mk h
  obtain ⟨A, c, hv, hnc, hcm⟩ := slice_of h.row
  obtain ⟨n, HN⟩ : ∃ n, Aside0 (L.length = n) := ⟨_, ⟨rfl⟩⟩
  rw [HN.out] at hv hnc
  subst hv
  have HSB := Aside0.mk h.sb
  clear h hcm hbs
  go_enter Try.func15, Try.ntmps15
  go_upto_region 1 with fail
  have HB := Aside0.mk (Below.refl w.heap.size w)
  have H2 := Aside0.mk (heap_alloc_new w (.cells #[.pointer (some ⟨b, 0, none⟩)] 25))
  have hb_ := below_alloc (Below.refl w.heap.size w) (.cells #[.pointer (some ⟨b, 0, none⟩)] 25)
  have hs_ : (w.alloc (.cells #[.pointer (some ⟨b, 0, none⟩)] 25)).heap.size = w.heap.size + 1 := by simp
  generalize w.alloc (.cells #[.pointer (some ⟨b, 0, none⟩)] 25) = w1 at H2 hb_ hs_ ⊢
  replace HB := Aside0.mk (below_step HB.out hb_)
  clear hb_

  have HS1 := Aside0.mk hs_
  clear hs_
  obtain ⟨g2, HG2⟩ : ∃ g, Aside0 (w.heap.size = g) := ⟨_, ⟨rfl⟩⟩
  rw [HG2.out] at H2 ⊢
  have H3 := Aside0.mk (heap_alloc_new w1 (.cells #[.int .i64 before] 2))
  have hb_ := below_alloc (Below.refl w1.heap.size w1) (.cells #[.int .i64 before] 2)
  have hs_ : (w1.alloc (.cells #[.int .i64 before] 2)).heap.size = w1.heap.size + 1 := by simp
  generalize w1.alloc (.cells #[.int .i64 before] 2) = w2 at H3 hb_ hs_ ⊢
  replace H2 := Aside0.mk (blk_below H2.out hb_)
  replace HB := Aside0.mk (below_step HB.out hb_)
  clear hb_

  clear hs_
  obtain ⟨g3, HG3⟩ : ∃ g, Aside0 (g2 + 1 = g) := ⟨_, ⟨rfl⟩⟩
  rw [HS1.out, HG2.out, HG3.out] at H3
  rw [HG3.out]
  have s_ := (blk_cell H2.out 0).trans (rfl : _ = some (.pointer (some ⟨b, 0, none⟩) : Value))
  go_upto_region 4 with fail
  clear s_
  have HWS : Aside0 (w.heap.size ≤ w2.heap.size) := ⟨HB.out.size⟩
  have H5 := Aside0.mk (heap_alloc_new w2 (.cells #[.slice none 0 0] 29))
  have hb_ := below_alloc (Below.refl w2.heap.size w2) (.cells #[.slice none 0 0] 29)
  have hs_ : (w2.alloc (.cells #[.slice none 0 0] 29)).heap.size = w2.heap.size + 1 := by simp
  generalize w2.alloc (.cells #[.slice none 0 0] 29) = w3 at H5 hb_ hs_ ⊢
  replace H2 := Aside0.mk (blk_below H2.out hb_)
  replace H3 := Aside0.mk (blk_below H3.out hb_)
  replace HB := Aside0.mk (below_step HB.out hb_)
  clear hb_

  clear hs_
  obtain ⟨g5, HG5⟩ : ∃ g, Aside0 (w2.heap.size = g) := ⟨_, ⟨rfl⟩⟩
  rw [HG5.out] at H5 HWS ⊢
  have HK := Aside0.mk (HK0.out.below HB.out)
  have HST := Aside0.mk HK.out.cell
  have HD : Aside0 (∀ w4, Below w3.heap.size w3 w4 → Calls Try.prog 27 #[.slice A n c, .func (.func 28) #[] #[.pointer (some ⟨g2, 0, none⟩), .pointer (some ⟨g3, 0, none⟩), .pointer (some ⟨g5, 0, none⟩)]] w4 (ExpD w b g2 g5 room gap before (.slice A n c) L base n)) :=
    ⟨fun w4 hb => expD_ok w base b g2 g3 g5 room gap before _ L n HN.out w4 (HK.out.below hb) (below_step HB.out hb) (fun k hk => (HSB.out k (.inr hk)).2) (blk_below H2.out hb) (blk_below H3.out hb) (blk_below H5.out hb) HWS.out⟩
  refine start_ (n := 10) (S := fun w' => w'.heap[g2]? = some (.cells #[.pointer (some ⟨b, 0, none⟩)] 25 (0, 0)) ∧ w'.heap[b]? = some (.cells #[.int .i64 room, .int .i64 gap, .slice A n c] 49 (0, 0))) (ds := [9]) #[false, false, false, false, false, false, false, false, false, false] (by kernel_rfl) rfl rfl (⟨H2.out, HST.out⟩) (fun hHeld => ?_)
  refine pure_ (i := 5) (N := some 13) (v := ?_) (a' := ?_) #[false, false, false, false, false, true, false, false, false, false] rfl rfl (by kernel_rfl) (fun _ _ _ h => h) (Or.inl ⟨by rfl, ?_⟩) ?_ ?_
  rotate_left
  · intro w'
    go_simp
    with_reducible rfl
  rotate_left
  · simp only [Act.put, List.setIfInBounds_toArray, List.set_cons_zero, List.set_cons_succ, i64_w, i32_w]
    rfl
  refine take_ (i := 0) (N := some 8) (v := ?_) (a' := ?_) #[true, false, false, false, false, true, false, false, false, false] rfl rfl (by kernel_rfl) (fun _ _ _ h => h) (Or.inl ⟨by rfl, ?_⟩) hHeld ?_ ?_
  rotate_left
  · intro w' hS
    have s_ := (blk_cell hS.1 0).trans (rfl : _ = some (.pointer (some ⟨b, 0, none⟩) : Value))
    go_simp
    with_reducible rfl
  rotate_left
  · simp only [Act.put, List.setIfInBounds_toArray, List.set_cons_zero, List.set_cons_succ, i64_w, i32_w]
    rfl
  refine take_ (i := 1) (N := some 9) (v := ?_) (a' := ?_) #[true, true, false, false, false, true, false, false, false, false] rfl rfl (by kernel_rfl) (fun _ _ _ h => h) (Or.inl ⟨by rfl, ?_⟩) hHeld ?_ ?_
  rotate_left
  · intro w' hS
    have s_ := (blk_cell hS.1 0).trans (rfl : _ = some (.pointer (some ⟨b, 0, none⟩) : Value))
    go_simp
    with_reducible rfl
  rotate_left
  · simp only [Act.put, List.setIfInBounds_toArray, List.set_cons_zero, List.set_cons_succ, i64_w, i32_w]
    rfl
  refine pure_ (i := 2) (N := some 10) (v := ?_) (a' := ?_) #[true, true, true, false, false, true, false, false, false, false] rfl rfl (by kernel_rfl) (fun _ _ _ h => h) (Or.inl ⟨by rfl, ?_⟩) ?_ ?_
  rotate_left
  · intro w'
    go_simp
    with_reducible rfl
  rotate_left
  · simp only [Act.put, List.setIfInBounds_toArray, List.set_cons_zero, List.set_cons_succ, i64_w, i32_w]
    rfl
  refine pure_ (i := 3) (N := some 11) (v := ?_) (a' := ?_) #[true, true, true, true, false, true, false, false, false, false] rfl rfl (by kernel_rfl) (fun _ _ _ h => h) (Or.inl ⟨by rfl, ?_⟩) ?_ ?_
  rotate_left
  · intro w'
    go_simp
    with_reducible rfl
  rotate_left
  · simp only [Act.put, List.setIfInBounds_toArray, List.set_cons_zero, List.set_cons_succ, i64_w, i32_w]
    rfl
  refine take_ (i := 4) (N := some 12) (v := ?_) (a' := ?_) #[true, true, true, true, true, true, false, false, false, false] rfl rfl (by kernel_rfl) (fun _ _ _ h => h) (Or.inl ⟨by rfl, ?_⟩) hHeld ?_ ?_
  rotate_left
  · intro w' hS
    have s_ := (blk_cell hS.2 2).trans (rfl : _ = some (.slice A n c : Value))
    go_simp
    with_reducible rfl
  rotate_left
  · simp only [Act.put, List.setIfInBounds_toArray, List.set_cons_zero, List.set_cons_succ, i64_w, i32_w]
    rfl
  refine one_ (i := 6) (N := some 14) #[true, true, true, true, true, true, true, false, false, false] rfl rfl (by kernel_rfl) (by simp) (fun K hK => ?_)
  refine goes_ Try.func27 (by kernel_rfl) rfl #[.slice A n c, .func (.func 28) #[] #[.pointer (some ⟨g2, 0, none⟩), .pointer (some ⟨g3, 0, none⟩), .pointer (some ⟨g5, 0, none⟩)]] (by rfl) rfl rfl (by simp only [List.map_toArray, List.map_cons, List.map_nil]; rfl) ?_
  with_reducible refine (HD.out _ (below_drew (Below.refl _ _))).mono ?_
  rintro e w5 ⟨A5, m5, c5, rfl, hk5, ho5, hh5, hc5, hst5, hg25, v5, h5_, hov_⟩
  refine ⟨_, rfl, ?_⟩
  refine hK.out _ _ (⟨hg25, hst5⟩) (fun hHeld => ?_)
  clear hK K
  refine norm_ (a' := ?_) ?_ ?_
  rotate_left
  · show Act.put _ (some 14) _ = _
    simp only [Act.put, List.setIfInBounds_toArray, List.set_cons_zero, List.set_cons_succ, i64_w, i32_w]
    rfl
  have y1 := (blk_cell hst5 2).trans (rfl : _ = some (.slice A n c : Value))
  have y2 := blk_frozen hst5 2
  have HST5 := Aside0.mk hst5
  have HO5 := Aside0.mk ho5
  have HV5 := Aside0.mk hov_
  have H55 := Aside0.mk h5_
  have HK5 := Aside0.mk hk5
  have HH5 := Aside0.mk hh5
  have HC5 := Aside0.mk hc5
  clear hst5 ho5 hov_ h5_ hk5 hh5 hc5 hg25
  refine pure_ (i := 7) (N := some 15) (v := ?_) (a' := ?_) #[true, true, true, true, true, true, true, true, false, false] rfl rfl (by kernel_rfl) (fun _ _ _ h => h) (Or.inl ⟨by rfl, ?_⟩) ?_ ?_
  rotate_left
  · intro w'
    go_simp
    with_reducible rfl
  rotate_left
  · simp only [Act.put, List.setIfInBounds_toArray, List.set_cons_zero, List.set_cons_succ, i64_w, i32_w]
    rfl
  refine pure_ (i := 8) (N := some 16) (v := ?_) (a' := ?_) #[true, true, true, true, true, true, true, true, true, false] rfl rfl (by kernel_rfl) (fun _ _ _ h => h) (Or.inl ⟨by rfl, ?_⟩) ?_ ?_
  rotate_left
  · intro w'
    go_simp
    with_reducible rfl
  rotate_left
  · simp only [Act.put, List.setIfInBounds_toArray, List.set_cons_zero, List.set_cons_succ, i64_w, i32_w]
    rfl
  refine last_ (i := 9) (N := none) #[true, true, true, true, true, true, true, true, true, true] rfl rfl (by kernel_rfl) (by simp) (fun K hK => ?_)
  refine skip_ (w1 := w5.setCell ⟨b, 2, none⟩ (.slice A5 m5 c5)) (by rfl) rfl (by first | (go_simp; done) | (go_simp; rfl)) ?_
  refine hK.out _ _ ?_
  clear hK K
  clear y1 y2
  refine done_ (by kernel_rfl) ?_

  have HP : Aside0 (SeS (w5.setCell ⟨b, 2, none⟩ (.slice A5 m5 c5)) base b room gap (.slice A5 m5 c5) (expL gap before L) ∧ Chg w (w5.setCell ⟨b, 2, none⟩ (.slice A5 m5 c5)) (SB b (.slice A n c)) ∧ Hat (.slice A n c) (.slice A5 m5 c5) w.heap.size ∧ (w5.setCell ⟨b, 2, none⟩ (.slice A5 m5 c5)).ownsRow w.heap.size 33 5 v5 (expM gap before L).length (cellsC (expM gap before L)) ∧ (w5.setCell ⟨b, 2, none⟩ (.slice A5 m5 c5)).heap[g5]? = some (.cells #[v5] 29 (0, 0))) := ⟨by
    have mv : ∀ (k : Nat) (T : TypeId) (cs : Array Value), w5.heap[k]? = some (.cells cs T (0, 0)) → T ≠ 49 → (w5.setCell ⟨b, 2, none⟩ (.slice A5 m5 c5)).heap[k]? = some (.cells cs T (0, 0)) := fun k T cs hk hT => (Below.heap_setCell w5 ⟨b, 2, none⟩ _ k (blk_types hk HST5.out hT)).trans hk
    have hsub : (expL gap before L).Sublist L := List.filter_sublist
    refine ⟨⟨HK.out.hb, blk_put HST5.out 2 _ rfl, ?_, HK.out.rise.sublist hsub, fun x hx => HK.out.span x (hsub.subset hx), fun x hx => HK.out.keys x (hsub.subset hx), Nat.le_trans hsub.length_le HK.out.len, HK.out.most, HK.out.gaps⟩, ?_, .inl HH5.out, ?_, mv _ _ _ H55.out (by decide)⟩
    · rw [HK5.out]
      exact own_kept HO5.out fun j hj => by
        obtain ⟨cur, hcur⟩ := own_block HO5.out hj
        rw [mv _ _ _ hcur (by decide), hcur]
    · have hc := HC5.out.set (p := ⟨b, 2, none⟩) (.inl (.inl rfl)) (.slice A5 m5 c5)
      exact ⟨hc.os, hc.tape, hc.output, hc.size, fun j hj hs => hc.block j hj (fun e => by rcases e with e | e; exact hs e; omega)⟩
    · exact own_kept HV5.out fun j hj => by
        obtain ⟨cur, hcur⟩ := own_block HV5.out hj
        rw [mv _ _ _ hcur (by decide), hcur]⟩
  generalize w5.setCell ⟨b, 2, none⟩ (.slice A5 m5 c5) = w6 at HP ⊢
  have HPost : Aside0 (ExpPost base b room gap (.slice A n c) (expL gap before L) (expM gap before L) w (.returned v5) w6) := ⟨⟨_, v5, rfl, HP.out.2.2.2.1, HP.out.1, HP.out.2.1, HP.out.2.2.1⟩⟩
  have s_ := (blk_cell HP.out.2.2.2.2 0).trans (rfl : _ = some (v5 : Value))
  go_wp2
  go_ret
  exact HPost.out
end Go.Proofs.Ytpjfmilokadchaa.Se
