/- (c14) A store's Expire. -/
import Derived.Test.YtpjfmilokadchaaSePut
namespace Go.Proofs.Ytpjfmilokadchaa.Se
open Go Go.RowKit Go.Proofs.YtpjfmilokadchaaW.PrintWords Go.Proofs.YtpjfmilokadchaaW.PrintLast Go.Proofs.YtpjfmilokadchaaW.PrintMore Go.Proofs.Ytpjfmilokadchaa.Rw Go.Proofs.Ytpjfmilokadchaa.Ex Go.Proofs.Ytpjfmilokadchaa.Mono
set_option linter.unusedVariables false
set_option linter.unusedSimpArgs false
attribute [local go_sem] run_store_span
theorem step_appC (W : World) {ops : Array Oper} {o : Oper} {a : Act} {K : Act → World → Prop} {Q : Exit → Act → World → Prop} {E : Prop} (hgd : o.guard = none) (s x : Operand) (ho : o.op = .call { callee := .builtin .append, args := #[s, x], argTypes := #[29, 29] })
    (base n : Nat) (v : Value) (M : List S33) (c : S33) (hs : a.eval s = v) (hown : W.ownsRow base 33 5 v n (cellsC M)) (hx : a.eval x = .slice (some ⟨W.heap.size, 0, none⟩) 1 1) (hn : n ≤ 5000) (hb : base ≤ W.heap.size)
    (h : ∀ v' w', w'.ownsRow base 33 5 v' (n + 1) (cellsC (M ++ [c])) → W.grownBy w' v.ownBlock → Hat v v' W.heap.size → (∃ A c', v' = .slice A (n + 1) c') → K (a.put o.dst v') w') :
    if Region.wanted o (yielded ops a.tmps) = true then Oper.wp Try.prog o a (W.alloc (.cells #[.int .i64 c.f0, .int .i64 c.f1, .int .i64 c.f2, .int .i64 c.f3, .bool c.f4] 33)) K Q else E := by
  obtain ⟨i0, hi0, hz0, hzs, hzb⟩ := infoC'
  have hmax : 9000 ≤ maxLen := by decide
  have hb1 := below_alloc (Below.refl W.heap.size W) (.cells #[.int .i64 c.f0, .int .i64 c.f1, .int .i64 c.f2, .int .i64 c.f3, .bool c.f4] 33)
  have hv := heap_alloc_new W (.cells #[.int .i64 c.f0, .int .i64 c.f1, .int .i64 c.f2, .int .i64 c.f3, .bool c.f4] 33)
  obtain ⟨v', w', hr, ho', hg', _, hat⟩ := run_append_own_at (P := Try.prog) _ base 29 o.type 33 i0 _ 5 40 Try.underlying29 hi0 hz0 hzs hzb (by rfl) (by omega) v n (cellsC M) (own_alloc hown _) ⟨W.heap.size, 0, none⟩ 1 1 (cell5 c) rfl
    (fun j u hj => by rw [Addr.add_lit, Nat.zero_add, cell_row hv rfl]; exact hj) (by intro u hu; unfold cell5 at hu; simp only [List.mem_cons, List.not_mem_nil, or_false] at hu; rcases hu with rfl | rfl | rfl | rfl | rfl <;> rfl) (by omega) (by omega) (Nat.le_trans hb hb1.size)
  refine step_append_eq hgd s x 29 29 ho _ _ hs hx hr (h v' w' ?_ ?_ ?_ ?_)
  · rw [cellsC_append]
    have : cellsC [c] = cell5 c := by simp [cellsC]
    rw [this]
    exact ho'
  · exact grown_trans (grown_below hb1 _) hg'
  · rcases hat with e | e
    · exact .inl e
    · exact .inr ⟨_, e, by have := hb1.size; exact this⟩
  · obtain ⟨A, c', e, _⟩ := slice_of ho'
    exact ⟨A, c', e⟩
def endB (gap before : Int) (p : Ses) : Bool := decide (p.b + gap ≤ before)
def expL (gap before : Int) (L : List Ses) : List Ses := L.filter fun p => !endB gap before p
def expM (gap before : Int) (L : List Ses) : List S33 := (L.filter (endB gap before)).map gonOf
theorem expM_snoc {gap before : Int} {L : List Ses} {i : Nat} {p : Ses} (h : L[i]? = some p) : expM gap before (L.take (i + 1)) = expM gap before (L.take i) ++ (if endB gap before p = true then [gonOf p] else []) := by
  obtain ⟨a, rfl⟩ := List.getElem?_eq_some_iff.1 h
  unfold expM
  rw [List.take_succ_eq_append_getElem a, List.filter_append, List.map_append]
  cases hd : endB gap before L[i] <;> simp [List.filter_cons, hd]
theorem expM_len (gap before : Int) (L : List Ses) : (expM gap before L).length ≤ L.length := by unfold expM; rw [List.length_map]; exact List.length_filter_le _ _
/-- Amid Expire: t sessions were asked. -/
structure ExpI (ws : World) (g b g2 g3 g5 : Nat) (room gap before : Int) (v : Value) (L : List Ses) (base : Nat) (t : Nat) (w : World) : Prop where
  c : Chg ws w (fun k => k = g ∨ base ≤ k)
  st : w.heap[b]? = some (.cells #[.int .i64 room, .int .i64 gap, v] 49 (0, 0))
  s2 : w.heap[g2]? = some (.cells #[.pointer (some ⟨b, 0, none⟩)] 25 (0, 0))
  s3 : w.heap[g3]? = some (.cells #[.int .i64 before] 2 (0, 0))
  s5 : ∃ vo, w.heap[g5]? = some (.cells #[vo] 29 (0, 0)) ∧ w.ownsRow base 33 5 vo (expM gap before (L.take t)).length (cellsC (expM gap before (L.take t)))
  bs : base ≤ w.heap.size
theorem ExpI.move {ws w w' : World} {g b g2 g3 g5 : Nat} {room gap before : Int} {v : Value} {L : List Ses} {base t : Nat} (h : ExpI ws g b g2 g3 g5 room gap before v L base t w) (hc : Chg w w' (fun k => k = g)) (hg : ∃ cs, w.heap[g]? = some (.cells cs 53 (0, 0))) : ExpI ws g b g2 g3 g5 room gap before v L base t w' := by
  obtain ⟨cs, hg⟩ := hg
  have mv : ∀ (k : Nat) (T : TypeId) (cs : Array Value), w.heap[k]? = some (.cells cs T (0, 0)) → T ≠ 53 → w'.heap[k]? = some (.cells cs T (0, 0)) := fun k T cs hk hT => (hc.block k (blk_lt hk) (blk_types hk hg hT)).trans hk
  obtain ⟨vo, h5, ho⟩ := h.s5
  refine ⟨h.c.trans (hc.mono fun k hk => .inl hk), mv _ _ _ h.st (by decide), mv _ _ _ h.s2 (by decide), mv _ _ _ h.s3 (by decide), ⟨vo, mv _ _ _ h5 (by decide), own_kept ho fun j hj => ?_⟩, Nat.le_trans h.bs hc.size⟩
  obtain ⟨cur, hcur⟩ := own_block ho hj
  rw [mv _ _ _ hcur (by decide), hcur]
set_option maxHeartbeats 4000000 in
set_option maxRecDepth 100000 in
theorem exp1_ok (ws : World) (g b g2 g3 g5 : Nat) (room gap before : Int) (v : Value) (L : List Ses) (base t : Nat) (p : Ses) (w : World) (hI : ExpI ws g b g2 g3 g5 room gap before v L base t w) (hp : L[t]? = some p) (hps : Span p) (hgp : 1 ≤ gap ∧ gap ≤ 1048576) (hl : L.length ≤ 1024) (hg5 : base ≤ g5) :
    Calls Try.prog 28 #[.agg #[.int .i64 p.k, spanV p.a p.b, .int .i64 p.v], .pointer (some ⟨g2, 0, none⟩), .pointer (some ⟨g3, 0, none⟩), .pointer (some ⟨g5, 0, none⟩)] w fun e w' => e = .returned (.bool (endB gap before p)) ∧ ExpI ws g b g2 g3 g5 room gap before v L base (t + 1) w' ∧ KeepS w w' := by
  have HI := Aside0.mk hI
  have HPS := Aside0.mk hps
  have HSN := Aside0.mk (expM_snoc (gap := gap) (before := before) hp)
  have HG5 := Aside0.mk hg5
  obtain ⟨vo, h5, ho⟩ := hI.s5
  have hwr : wrap64 (p.b + gap) = p.b + gap := by unfold Span at hps; unfold wrap64; omega
  have hml : (expM gap before (L.take t)).length ≤ 5000 := by have h1 := expM_len gap before (L.take t); have h2 := take_le L t; have h3 := (List.getElem?_eq_some_iff.1 hp).1; omega
  obtain ⟨outs, HOE⟩ : ∃ y, Aside0 (expM gap before (L.take t) = y) := ⟨_, ⟨rfl⟩⟩
  obtain ⟨m, HM⟩ : ∃ y, Aside0 (outs.length = y) := ⟨_, ⟨rfl⟩⟩
  rw [HOE.out, HM.out] at ho hml
  rw [HOE.out] at HSN
  have HO := Aside0.mk ho
  have H5 := Aside0.mk h5
  have H2 := Aside0.mk hI.s2
  have H3 := Aside0.mk hI.s3
  have HST := Aside0.mk hI.st
  have HBS0 := Aside0.mk hI.bs
  obtain ⟨q, HQ⟩ : ∃ q, Aside0 (endB gap before p = q) := ⟨_, ⟨rfl⟩⟩
  have HQ2 : Aside0 (decide (p.b + gap ≤ before) = q) := ⟨HQ.out⟩
  rw [HQ.out] at HSN ⊢
  clear hI hp hps hgp hl hg5 h5 ho
  go_enter Try.func28, Try.ntmps28
  go_upto_region 1 with fail
  have hbA := below_alloc (Below.refl w.heap.size w) (.cells #[.int .i64 p.k, spanV p.a p.b, .int .i64 p.v] 53)
  have BP := Aside0.mk (heap_alloc_new w (.cells #[.int .i64 p.k, spanV p.a p.b, .int .i64 p.v] 53))
  have HBA := Aside0.mk hbA
  generalize w.alloc (.cells #[.int .i64 p.k, spanV p.a p.b, .int .i64 p.v] 53) = w1 at BP HBA hbA ⊢
  obtain ⟨gb, HGB⟩ : ∃ g, Aside0 (w.heap.size = g) := ⟨_, ⟨rfl⟩⟩
  rw [HGB.out] at BP ⊢
  replace H2 := Aside0.mk (blk_below H2.out hbA)
  replace H3 := Aside0.mk (blk_below H3.out hbA)
  replace H5 := Aside0.mk (blk_below H5.out hbA)
  replace HST := Aside0.mk (blk_below HST.out hbA)
  clear hbA
  refine start_ (n := 10) (S := fun w' => Below w1.heap.size w1 w') (ds := []) #[false, false, false, false, false, false, false, false, false, false] (by kernel_rfl) rfl rfl (below_drew (Below.refl _ _)) (fun hHeld => ?_)
  refine take_ (i := 0) (N := some 7) (v := ?_) (a' := ?_) #[true, false, false, false, false, false, false, false, false, false] rfl rfl (by kernel_rfl) (fun _ _ _ h => h) (Or.inl ⟨by rfl, ?_⟩) hHeld ?_ ?_
  rotate_left
  · intro w' hS
    have z0_ := (blk_cell (blk_below BP.out hS) 0).trans (rfl : _ = some (.int .i64 p.k : Value))
    have z1_ := (blk_cell (blk_below BP.out hS) 1).trans (rfl : _ = some (spanV p.a p.b : Value))
    have z2_ := (blk_cell (blk_below BP.out hS) 2).trans (rfl : _ = some (.int .i64 p.v : Value))
    go_simp
    with_reducible rfl
  rotate_left
  · simp only [Act.put, List.setIfInBounds_toArray, List.set_cons_zero, List.set_cons_succ, i64_w, i32_w]
    rfl
  refine take_ (i := 2) (N := some 9) (v := ?_) (a' := ?_) #[true, false, true, false, false, false, false, false, false, false] rfl rfl (by kernel_rfl) (fun _ _ _ h => h) (Or.inl ⟨by rfl, ?_⟩) hHeld ?_ ?_
  rotate_left
  · intro w' hS
    have s_ := (blk_cell (blk_below H2.out hS) 0).trans (rfl : _ = some (.pointer (some ⟨b, 0, none⟩) : Value))
    go_simp
    with_reducible rfl
  rotate_left
  · simp only [Act.put, List.setIfInBounds_toArray, List.set_cons_zero, List.set_cons_succ, i64_w, i32_w]
    rfl
  refine pure_ (i := 3) (N := some 10) (v := ?_) (a' := ?_) #[true, false, true, true, false, false, false, false, false, false] rfl rfl (by kernel_rfl) (fun _ _ _ h => h) (Or.inl ⟨by rfl, ?_⟩) ?_ ?_
  rotate_left
  · intro w'
    go_simp
    with_reducible rfl
  rotate_left
  · simp only [Act.put, List.setIfInBounds_toArray, List.set_cons_zero, List.set_cons_succ, i64_w, i32_w]
    rfl
  refine pure_ (i := 4) (N := some 11) (v := ?_) (a' := ?_) #[true, false, true, true, true, false, false, false, false, false] rfl rfl (by kernel_rfl) (fun _ _ _ h => h) (Or.inl ⟨by rfl, ?_⟩) ?_ ?_
  rotate_left
  · intro w'
    go_simp
    with_reducible rfl
  rotate_left
  · simp only [Act.put, List.setIfInBounds_toArray, List.set_cons_zero, List.set_cons_succ, i64_w, i32_w]
    rfl
  refine take_ (i := 5) (N := some 12) (v := ?_) (a' := ?_) #[true, false, true, true, true, true, false, false, false, false] rfl rfl (by kernel_rfl) (fun _ _ _ h => h) (Or.inl ⟨by rfl, ?_⟩) hHeld ?_ ?_
  rotate_left
  · intro w' hS
    have s_ := (blk_cell (blk_below HST.out hS) 1).trans (rfl : _ = some (.int .i64 gap : Value))
    go_simp
    with_reducible rfl
  rotate_left
  · simp only [Act.put, List.setIfInBounds_toArray, List.set_cons_zero, List.set_cons_succ, i64_w, i32_w]
    rfl
  refine take_ (i := 7) (N := some 14) (v := ?_) (a' := ?_) #[true, false, true, true, true, true, false, true, false, false] rfl rfl (by kernel_rfl) (fun _ _ _ h => h) (Or.inl ⟨by rfl, ?_⟩) hHeld ?_ ?_
  rotate_left
  · intro w' hS
    have s_ := (blk_cell (blk_below H3.out hS) 0).trans (rfl : _ = some (.int .i64 before : Value))
    go_simp
    with_reducible rfl
  rotate_left
  · simp only [Act.put, List.setIfInBounds_toArray, List.set_cons_zero, List.set_cons_succ, i64_w, i32_w]
    rfl
  refine one_ (i := 1) (N := some 8) #[true, true, true, true, true, true, false, true, false, false] rfl rfl (by kernel_rfl) (by simp) (fun K hK => ?_)
  refine goes_ Try.func20 (by kernel_rfl) rfl #[.agg #[.int .i64 p.k, spanV p.a p.b, .int .i64 p.v]] (by rfl) rfl rfl (by simp only [List.map_toArray, List.map_cons, List.map_nil]; rfl) ?_
  with_reducible refine (to_ok p HPS.out _).mono ?_
  rintro e w2 ⟨rfl, hb_⟩
  refine ⟨_, rfl, ?_⟩
  replace hb_ := below_step hHeld hb_
  refine hK.out _ _ hb_ (fun _ => ?_)
  clear hK K
  refine norm_ (a' := ?_) ?_ ?_
  rotate_left
  · show Act.put _ (some 8) _ = _
    simp only [Act.put, List.setIfInBounds_toArray, List.set_cons_zero, List.set_cons_succ, i64_w, i32_w]
    rfl
  replace hHeld := hb_
  clear hb_
  refine pure_ (i := 6) (N := some 13) (v := ?_) (a' := ?_) #[true, true, true, true, true, true, true, true, false, false] rfl rfl (by kernel_rfl) (fun _ _ _ h => h) (Or.inl ⟨by rfl, ?_⟩) ?_ ?_
  rotate_left
  · intro w'
    go_simp
    with_reducible rfl
  rotate_left
  · simp only [Act.put, List.setIfInBounds_toArray, List.set_cons_zero, List.set_cons_succ, i64_w, i32_w]
    rfl
  refine pure_ (i := 8) (N := some 15) (v := ?_) (a' := ?_) #[true, true, true, true, true, true, true, true, true, false] rfl rfl (by kernel_rfl) (fun _ _ _ h => h) (Or.inl ⟨by rfl, ?_⟩) ?_ ?_
  rotate_left
  · intro w'
    go_simp
    with_reducible rfl
  rotate_left
  · simp only [Act.put, List.setIfInBounds_toArray, List.set_cons_zero, List.set_cons_succ, i64_w, i32_w]
    rfl
  refine pure_ (i := 9) (N := some 6) (v := ?_) (a' := ?_) #[true, true, true, true, true, true, true, true, true, true] rfl rfl (by kernel_rfl) (fun _ _ _ h => h) (Or.inl ⟨by rfl, ?_⟩) ?_ ?_
  rotate_left
  · intro w'
    go_simp
    with_reducible rfl
  rotate_left
  · simp only [Act.put, List.setIfInBounds_toArray, List.set_cons_zero, List.set_cons_succ, i64_w, i32_w]
    rfl
  refine done_ (by kernel_rfl) ?_

  rw [HQ2.out]
  have HB2 := Aside0.mk (below_step HBA.out hHeld)
  replace H2 := Aside0.mk (blk_below H2.out hHeld)
  replace H3 := Aside0.mk (blk_below H3.out hHeld)
  replace H5 := Aside0.mk (blk_below H5.out hHeld)
  replace HST := Aside0.mk (blk_below HST.out hHeld)
  replace BP := Aside0.mk (blk_below BP.out hHeld)
  have HO2 := Aside0.mk (own_below HO.out HB2.out)
  have HBS : Aside0 (base ≤ w2.heap.size) := ⟨Nat.le_trans HBS0.out HB2.out.size⟩
  clear hHeld hwr
  cases q with
  | false =>
    have HP : Aside0 (ExpI ws g b g2 g3 g5 room gap before v L base (t + 1) w2 ∧ KeepS w w2) := ⟨⟨HI.out.c.trans (Chg.of_below HB2.out), HST.out, H2.out, H3.out, ⟨vo, H5.out, by rw [HSN.out, if_neg (by simp), List.append_nil, HM.out]; exact HO2.out⟩, HBS.out⟩, KeepS.below HB2.out⟩
    go_wp2_with fail
    go_ret
    exact ⟨rfl, HP.out⟩
  | true =>
    go_upto_region 3 with fail
    refine start_ (n := 6) (S := fun w' => Below w2.heap.size w2 w') (ds := [4, 5]) #[false, false, false, false, false, false] (by kernel_rfl) rfl rfl (below_drew (Below.refl _ _)) (fun hHeld => ?_)
    refine take_ (i := 0) (N := some 17) (v := ?_) (a' := ?_) #[true, false, false, false, false, false] rfl rfl (by kernel_rfl) (fun _ _ _ h => h) (Or.inl ⟨by rfl, ?_⟩) hHeld ?_ ?_
    rotate_left
    · intro w' hS
      have s_ := (blk_cell (blk_below H5.out hS) 0).trans (rfl : _ = some (vo : Value))
      go_simp
      with_reducible rfl
    rotate_left
    · simp only [Act.put, List.setIfInBounds_toArray, List.set_cons_zero, List.set_cons_succ, i64_w, i32_w]
      rfl
    refine take_ (i := 1) (N := some 18) (v := ?_) (a' := ?_) #[true, true, false, false, false, false] rfl rfl (by kernel_rfl) (fun _ _ _ h => h) (Or.inl ⟨by rfl, ?_⟩) hHeld ?_ ?_
    rotate_left
    · intro w' hS
      have z0_ := (blk_cell (blk_below BP.out hS) 0).trans (rfl : _ = some (.int .i64 p.k : Value))
      have z1_ := (blk_cell (blk_below BP.out hS) 1).trans (rfl : _ = some (spanV p.a p.b : Value))
      have z2_ := (blk_cell (blk_below BP.out hS) 2).trans (rfl : _ = some (.int .i64 p.v : Value))
      go_simp
      with_reducible rfl
    rotate_left
    · simp only [Act.put, List.setIfInBounds_toArray, List.set_cons_zero, List.set_cons_succ, i64_w, i32_w]
      rfl
    refine one_ (i := 2) (N := some 19) #[true, true, true, false, false, false] rfl rfl (by kernel_rfl) (by simp) (fun K hK => ?_)
    refine goes_ Try.func21 (by kernel_rfl) rfl #[.agg #[.int .i64 p.k, spanV p.a p.b, .int .i64 p.v]] (by rfl) rfl rfl (by simp only [List.map_toArray, List.map_cons, List.map_nil]; rfl) ?_
    with_reducible refine (gone_ok p HPS.out _).mono ?_
    rintro e w3 ⟨rfl, hb_⟩
    refine ⟨_, rfl, ?_⟩
    replace hb_ := below_step hHeld hb_
    refine hK.out _ _ hb_ (fun _ => ?_)
    clear hK K
    refine norm_ (a' := ?_) ?_ ?_
    rotate_left
    · show Act.put _ (some 19) _ = _
      simp only [Act.put, List.setIfInBounds_toArray, List.set_cons_zero, List.set_cons_succ, i64_w, i32_w]
      rfl
    replace hHeld := hb_
    unfold goneV
    have HO3 := Aside0.mk (own_below HO2.out hHeld)
    replace H5 := Aside0.mk (blk_below H5.out hHeld)
    have HBS3 : Aside0 (base ≤ w3.heap.size) := ⟨Nat.le_trans HBS.out hHeld.size⟩
    have HB3 := Aside0.mk hHeld
    clear hb_
    refine one_ (i := 3) (N := some 20) #[true, true, true, true, false, false] rfl rfl (by kernel_rfl) (by simp) (fun K hK => ?_)
    refine value_ (w1 := w3.alloc (.cells #[.int .i64 p.k, .int .i64 p.a, .int .i64 p.b, .int .i64 0, .bool true] 33)) (v := .slice (some ⟨w3.heap.size, 0, none⟩) 1 1) (by rfl) rfl (by first | (go_simp; done) | (go_simp; rfl)) ?_
    have hb_ := below_alloc (Below.refl w3.heap.size w3) (.cells #[.int .i64 p.k, .int .i64 p.a, .int .i64 p.b, .int .i64 0, .bool true] 33)
    replace hb_ := below_step hHeld hb_
    refine hK.out _ _ hb_ (fun _ => ?_)
    clear hK K
    refine norm_ (a' := ?_) ?_ ?_
    rotate_left
    · show Act.put _ (some 20) _ = _
      simp only [Act.put, List.setIfInBounds_toArray, List.set_cons_zero, List.set_cons_succ, i64_w, i32_w]
      rfl
    clear hb_
    refine last_ (i := 4) (N := some 21) #[true, true, true, true, true, false] rfl rfl (by kernel_rfl) (by simp) (fun K hK => ?_)
    refine step_appC _ rfl _ _ rfl base m vo outs (gonOf p) rfl HO3.out rfl (by omega) HBS3.out ?_
    intro v' w5 ho_ hg_ hh_ hs_
    obtain ⟨A31, c31, rfl⟩ := hs_
    refine hK.out _ _ ?_
    clear hK K
    refine norm_ (a' := ?_) ?_ ?_
    rotate_left
    · show Act.put _ (some 21) _ = _
      simp only [Act.put, List.setIfInBounds_toArray, List.set_cons_zero, List.set_cons_succ, i64_w, i32_w]
      rfl
    have HO5 := Aside0.mk ho_
    have HG5' := Aside0.mk hg_
    have h5_ : w5.heap[g5]? = some (.cells #[vo] 29 (0, 0)) := (hg_.block g5 (blk_lt H5.out) (fun e => by obtain ⟨cur, hcur⟩ := own_block HO3.out e; exact blk_types H5.out hcur (by decide) rfl)).trans H5.out
    have H55 := Aside0.mk h5_
    have y1 := (blk_cell h5_ 0).trans (rfl : _ = some (vo : Value))
    have y2 := blk_frozen h5_ 0
    clear h5_ ho_ hg_ hh_
    refine last_ (i := 5) (N := none) #[true, true, true, true, true, true] rfl rfl (by kernel_rfl) (by simp) (fun K hK => ?_)
    refine skip_ (w1 := w5.setCell ⟨g5, 0, none⟩ (.slice A31 (m + 1) c31)) (by rfl) rfl (by first | (go_simp; done) | (go_simp; rfl)) ?_
    refine hK.out _ _ ?_
    clear hK K
    clear y1 y2
    refine done_ (by kernel_rfl) ?_

    have HP : Aside0 (ExpI ws g b g2 g3 g5 room gap before v L base (t + 1) (w5.setCell ⟨g5, 0, none⟩ (.slice A31 (m + 1) c31)) ∧ KeepS w (w5.setCell ⟨g5, 0, none⟩ (.slice A31 (m + 1) c31))) := ⟨by
      have hb3 := below_step HB2.out HB3.out
      have mv : ∀ (k : Nat) (T : TypeId) (cs : Array Value), w3.heap[k]? = some (.cells cs T (0, 0)) → T ≠ 33 → T ≠ 29 → (w5.setCell ⟨g5, 0, none⟩ (.slice A31 (m + 1) c31)).heap[k]? = some (.cells cs T (0, 0)) := fun k T cs hk hT hT2 => by
        have h1 := (HG5'.out.block k (blk_lt hk) (fun e => by obtain ⟨cur, hcur⟩ := own_block HO3.out e; exact blk_types hk hcur hT rfl)).trans hk
        exact (Below.heap_setCell w5 ⟨g5, 0, none⟩ _ k (blk_types h1 H55.out hT2)).trans h1
      have hc : Chg w (w5.setCell ⟨g5, 0, none⟩ (.slice A31 (m + 1) c31)) (fun k => k = g ∨ base ≤ k) := ((Chg.of_below hb3).trans ((Chg.of_grown HG5'.out).mono fun k hk => .inr (own_lt' HO3.out k hk.symm).1)).set (p := ⟨g5, 0, none⟩) (.inr HG5.out) _
      refine ⟨⟨HI.out.c.trans hc, mv _ _ _ (blk_below HST.out HB3.out) (by decide) (by decide), mv _ _ _ (blk_below H2.out HB3.out) (by decide) (by decide), mv _ _ _ (blk_below H3.out HB3.out) (by decide) (by decide), ⟨_, blk_put H55.out 0 _ rfl, ?_⟩, Nat.le_trans HI.out.bs hc.size⟩, ⟨hc.size, fun k cs hk => mv _ _ _ (blk_below hk hb3) (by decide) (by decide)⟩⟩
      rw [HSN.out, if_pos rfl, List.length_append, HM.out]
      exact own_kept HO5.out fun j hj => by
        obtain ⟨cur, hcur⟩ := own_block HO5.out hj
        rw [Below.heap_setCell w5 ⟨g5, 0, none⟩ _ j (blk_types hcur H55.out (by decide)), hcur]⟩
    go_wp2_with fail
    go_ret
    exact ⟨rfl, HP.out⟩
end Go.Proofs.Ytpjfmilokadchaa.Se
