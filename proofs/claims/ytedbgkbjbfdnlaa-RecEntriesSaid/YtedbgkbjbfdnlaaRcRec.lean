/- rec.record: three signed numbers off a reader. -/
import Derived.Test.YtedbgkbjbfdnlaaRcI
import Derived.Test.YtedbgkbjbfdnlaaRcA
namespace Go.Proofs.Ytedbgkbjbfdnlaa.Rc
open Go Go.RowKit Go.Proofs.YtedbgkbjbfdnlaaW.PrintWords Go.Proofs.YtedbgkbjbfdnlaaW.PrintLast Go.Proofs.YtedbgkbjbfdnlaaW.PrintMore Go.Proofs.Ytedbgkbjbfdnlaa.Pk
set_option linter.unusedVariables false
set_option linter.unusedSimpArgs false
theorem grown_set (w : World) (b : Nat) (v : Value) : w.grownBy (w.setCell ⟨b, 0, none⟩ v) (some b) :=
  ⟨rfl, rfl, rfl, by simp [World.setCell], fun k _ hk => Below.heap_setCell _ _ _ _ (fun e => hk (by rw [e]))⟩
theorem grown_trans {w w1 w2 : World} {r : Option Nat} (h : w.grownBy w1 r) (k : w1.grownBy w2 r) : w.grownBy w2 r :=
  ⟨k.os.trans h.os, k.tape.trans h.tape, k.output.trans h.output, Nat.le_trans h.size k.size, fun i hi hr => (k.block i (Nat.lt_of_lt_of_le hi h.size) hr).trans (h.block i hi hr)⟩
theorem grown_below {w w1 w2 : World} {row : Option Nat} (h : w.grownBy w1 row) (hb : Below w.heap.size w1 w2) : w.grownBy w2 row :=
  ⟨hb.os.trans h.os, hb.tape.trans h.tape, hb.output.trans h.output, Nat.le_trans h.size hb.size, fun k hk hr => (hb.block k hk).trans (h.block k hk hr)⟩
/-- Three signed numbers, or the error; and what is left. -/
def rec3 (xs : List Int) : (Int × Int × Int) × Int × List Int :=
  if (rdU xs).2.1 ≠ 0 then ((0, 0, 0), (rdU xs).2.1, xs)
  else if (rdU (rdU xs).2.2).2.1 ≠ 0 then ((0, 0, 0), (rdU (rdU xs).2.2).2.1, xs)
  else if (rdU (rdU (rdU xs).2.2).2.2).2.1 ≠ 0 then ((0, 0, 0), (rdU (rdU (rdU xs).2.2).2.2).2.1, xs)
  else ((sgn (rdU xs).1, sgn (rdU (rdU xs).2.2).1, sgn (rdU (rdU (rdU xs).2.2).2.2).1), 0, (rdU (rdU (rdU xs).2.2).2.2).2.2)
/-- What a step of the loop knows. -/
structure RR (w0 wr : World) (base b g2 g4 : Nat) (xs : List Int) (i : Nat) (a0 a1 a2 : Int) (r : List Int) : Prop where
  b2 : wr.heap[g2]? = some (.cells #[.int .i64 0, .int .i64 0, .int .i64 0] 23 (0, 0))
  b4 : wr.heap[g4]? = some (.cells #[.int .i64 a0, .int .i64 a1, .int .i64 a2] 84 (0, 0))
  n2 : g2 ≠ b
  n4 : g4 ≠ b
  n24 : g2 ≠ g4
  l2 : w0.heap.size ≤ g2
  l4 : w0.heap.size ≤ g4
  rd : Rdr wr base b r
  gr : w0.grownBy wr (some b)
theorem grown_setNew {w0 w : World} {b g : Nat} (h : w0.grownBy w (some b)) (hg : w0.heap.size ≤ g) (j : Nat) (v : Value) : w0.grownBy (w.setCell ⟨g, j, none⟩ v) (some b) := by
  refine ⟨h.os, h.tape, h.output, by simp [World.setCell]; exact h.size, fun k hk hr => ?_⟩
  exact (Below.heap_setCell w ⟨g, j, none⟩ v k (by show k ≠ g; omega)).trans (h.block k hk hr)
theorem grown_refl (w : World) (r : Option Nat) : w.grownBy w r := ⟨rfl, rfl, rfl, Nat.le_refl _, fun _ _ _ => rfl⟩
/-- Behind a number read: the blocks stay. -/
theorem RR.read {w0 wr w1 : World} {base b g2 g4 : Nat} {xs : List Int} {i : Nat} {a0 a1 a2 : Int} {r : List Int} (h : RR w0 wr base b g2 g4 xs i a0 a1 a2 r) {r1 : List Int} (hr : Rdr w1 base b r1) (hg : wr.grownBy w1 (some b)) : RR w0 w1 base b g2 g4 xs i a0 a1 a2 r1 :=
  ⟨blk_grown h.b2 hg (by simpa using h.n2), blk_grown h.b4 hg (by simpa using h.n4), h.n2, h.n4, h.n24, h.l2, h.l4, hr, grown_trans h.gr hg⟩
theorem Rdr_far {w : World} {base b g : Nat} {xs : List Int} {t : TypeId} {cs : Array Value} (h : Rdr w base b xs) (hg : w.heap[g]? = some (.cells cs t (0, 0))) (hne : g ≠ b) (ht : t ≠ 5) (j : Nat) (v : Value) : Rdr (w.setCell ⟨g, j, none⟩ v) base b xs := by
  obtain ⟨h1, h2, v0, h3, h4⟩ := h
  exact ⟨h1, h2, v0, blk_far h3 (p := ⟨g, j, none⟩) (fun e => hne e.symm) v, Kd.Q_set h4 hg (by simpa [Kd.int, Kd.scalar] using fun e => ht e.symm) j v⟩
theorem RR.put {w0 wr : World} {base b g2 g4 : Nat} {xs : List Int} {i : Nat} {a0 a1 a2 b0 b1 b2 : Int} {r : List Int} (h : RR w0 wr base b g2 g4 xs i a0 a1 a2 r) (j : Nat) (v : Int) (e : (#[.int .i64 a0, .int .i64 a1, .int .i64 a2] : Array Value).setIfInBounds j (.int .i64 v) = #[.int .i64 b0, .int .i64 b1, .int .i64 b2]) : RR w0 (wr.setCell ⟨g4, j, none⟩ (.int .i64 v)) base b g2 g4 xs (i + 1) b0 b1 b2 r :=
  ⟨blk_far h.b2 (p := ⟨g4, j, none⟩) h.n24 _, blk_put h.b4 j _ e, h.n2, h.n4, h.n24, h.l2, h.l4, Rdr_far h.rd h.b4 h.n4 (by decide) j _, grown_setNew h.gr h.l4 j _⟩
theorem RR.fin {w0 wr : World} {base b g2 g4 : Nat} {xs : List Int} {i : Nat} {a0 a1 a2 : Int} {r : List Int} (h : RR w0 wr base b g2 g4 xs i a0 a1 a2 r) (v0 v1 v2 : Int) :
    (((wr.setCell ⟨g2, 0, none⟩ (.int .i64 v0)).setCell ⟨g2, 1, none⟩ (.int .i64 v1)).setCell ⟨g2, 2, none⟩ (.int .i64 v2)).heap[g2]? = some (.cells #[.int .i64 v0, .int .i64 v1, .int .i64 v2] 23 (0, 0)) ∧ Rdr (((wr.setCell ⟨g2, 0, none⟩ (.int .i64 v0)).setCell ⟨g2, 1, none⟩ (.int .i64 v1)).setCell ⟨g2, 2, none⟩ (.int .i64 v2)) base b r ∧ w0.grownBy (((wr.setCell ⟨g2, 0, none⟩ (.int .i64 v0)).setCell ⟨g2, 1, none⟩ (.int .i64 v1)).setCell ⟨g2, 2, none⟩ (.int .i64 v2)) (some b) := by
  have b0 := blk_put h.b2 0 (.int .i64 v0) rfl
  have b1 := blk_put b0 1 (.int .i64 v1) rfl
  have b2 := blk_put b1 2 (.int .i64 v2) rfl
  exact ⟨b2, Rdr_far (Rdr_far (Rdr_far h.rd h.b2 h.n2 (by decide) 0 _) b0 h.n2 (by decide) 1 _) b1 h.n2 (by decide) 2 _, grown_setNew (grown_setNew (grown_setNew h.gr h.l2 0 _) h.l2 1 _) h.l2 2 _⟩
def St (xs : List Int) (i : Nat) (a0 a1 a2 : Int) (r : List Int) : Prop :=
  (i = 0 ∧ a0 = 0 ∧ a1 = 0 ∧ a2 = 0 ∧ r = xs) ∨
  (i = 1 ∧ (rdU xs).2.1 = 0 ∧ a0 = sgn (rdU xs).1 ∧ a1 = 0 ∧ a2 = 0 ∧ r = (rdU xs).2.2) ∨
  (i = 2 ∧ (rdU xs).2.1 = 0 ∧ (rdU (rdU xs).2.2).2.1 = 0 ∧ a0 = sgn (rdU xs).1 ∧ a1 = sgn (rdU (rdU xs).2.2).1 ∧ a2 = 0 ∧ r = (rdU (rdU xs).2.2).2.2) ∨
  (i = 3 ∧ rec3 xs = ((a0, a1, a2), 0, r))
theorem St.bad {xs : List Int} {i : Nat} {a0 a1 a2 : Int} {r : List Int} (h : St xs i a0 a1 a2 r) (hi : i < 3) (hb : (rdU r).2.1 ≠ 0) : rec3 xs = ((0, 0, 0), (rdU r).2.1, xs) := by
  unfold rec3
  rcases h with ⟨rfl, rfl, rfl, rfl, rfl⟩ | ⟨rfl, e1, rfl, rfl, rfl, rfl⟩ | ⟨rfl, e1, e2, rfl, rfl, rfl, rfl⟩ | ⟨rfl, _⟩
  · rw [if_pos hb]
  · rw [if_neg (by simpa using e1), if_pos hb]
  · rw [if_neg (by simpa using e1), if_neg (by simpa using e2), if_pos hb]
  · omega
theorem St.next {xs : List Int} {i : Nat} {a0 a1 a2 : Int} {r : List Int} (h : St xs i a0 a1 a2 r) (hi : i < 3) (hb : (rdU r).2.1 = 0) : St xs (i + 1) (if i = 0 then sgn (rdU r).1 else a0) (if i = 1 then sgn (rdU r).1 else a1) (if i = 2 then sgn (rdU r).1 else a2) (rdU r).2.2 := by
  rcases h with ⟨rfl, rfl, rfl, rfl, rfl⟩ | ⟨rfl, e1, rfl, rfl, rfl, rfl⟩ | ⟨rfl, e1, e2, rfl, rfl, rfl, rfl⟩ | ⟨rfl, _⟩
  · exact .inr (.inl ⟨rfl, hb, rfl, rfl, rfl, rfl⟩)
  · exact .inr (.inr (.inl ⟨rfl, e1, hb, rfl, rfl, rfl, rfl⟩))
  · refine .inr (.inr (.inr ⟨rfl, ?_⟩))
    unfold rec3
    rw [if_neg (by simpa using e1), if_neg (by simpa using e2), if_neg (by simpa using hb)]
    rfl
  · omega
set_option maxHeartbeats 4000000 in
set_option maxRecDepth 100000 in
theorem record_ok2 (b : Nat) (xs : List Int) (base : Nat) (w : World) (h : Rdr w base b xs) :
    Calls Try.prog 28 #[.pointer (some ⟨b, 0, none⟩)] w fun e w' => e = .returned (.tuple #[.agg #[.int .i64 (rec3 xs).1.1, .int .i64 (rec3 xs).1.2.1, .int .i64 (rec3 xs).1.2.2], .int .i64 (rec3 xs).2.1]) ∧ (∃ r', Rdr w' base b r' ∧ ((rec3 xs).2.1 = 0 → r' = (rec3 xs).2.2)) ∧ w.grownBy w' (some b) := by
  have HR0 := Aside0.mk h
  clear h
  obtain ⟨q, HQ⟩ : ∃ q, Aside0 (rec3 xs = q) := ⟨_, ⟨rfl⟩⟩
  rw [HQ.out]
  go_enter Try.func28, Try.ntmps28
  go_upto_region 2 with fail
  have HI : Aside0 (RR w ((w.alloc (.cells #[.int .i64 0, .int .i64 0, .int .i64 0] 23)).alloc (.cells #[.int .i64 0, .int .i64 0, .int .i64 0] 84)) base b w.heap.size (w.heap.size + 1) xs 0 0 0 0 xs) := ⟨by
    have hb := HR0.out.lt
    refine ⟨blk_below (heap_alloc_new w _) (below_alloc (Below.refl _ _) _), ?_, by omega, by omega, by omega, by omega, by omega, HR0.out.below (below_alloc (below_alloc (Below.refl _ _) _) _), grown_below (grown_refl w _) (below_alloc (below_alloc (Below.refl _ _) _) _)⟩
    have := heap_alloc_new (w.alloc (.cells #[.int .i64 0, .int .i64 0, .int .i64 0] 23)) (.cells #[.int .i64 0, .int .i64 0, .int .i64 0] 84)
    simpa using this⟩
  generalize ((w.alloc (.cells #[.int .i64 0, .int .i64 0, .int .i64 0] 23)).alloc (.cells #[.int .i64 0, .int .i64 0, .int .i64 0] 84)) = w0 at HI ⊢
  generalize w.heap.size + 1 = g4 at HI ⊢
  obtain ⟨g2, HG2⟩ : ∃ g2, Aside0 (w.heap.size = g2) := ⟨_, ⟨rfl⟩⟩
  rw [HG2.out] at HI ⊢
  go_wp2_with fail
  go_loopw [5, 6, 7] (fun v5 v6 v7 wr => ∃ (i : Nat) (a0 a1 a2 : Int) (r : List Int), v7 = .int .i64 (i : Int) ∧ Aside0 (RR w wr base b g2 g4 xs i a0 a1 a2 r) ∧ Aside0 (St xs i a0 a1 a2 r)) (fun _ _ v7 _ => 3 - (intOf v7).toNat)
  case atStart => exact ⟨0, 0, 0, 0, xs, rfl, HI, ⟨.inl ⟨rfl, rfl, rfl, rfl, rfl⟩⟩⟩
  case round =>
    clear HI
    obtain ⟨i, a0, a1, a2, r, rfl, HRR, HST⟩ := hrel
    have hi4 : i = 0 ∨ i = 1 ∨ i = 2 ∨ i = 3 := by
      rcases HST.out with h | h | h | h <;> omega
    rcases hi4 with rfl | rfl | rfl | rfl
    · have HR := Aside0.mk (HRR.out.rd)
      obtain ⟨n_, HN⟩ : ∃ s, Aside0 (sgn (rdU r).1 = s) := ⟨_, ⟨rfl⟩⟩
      obtain ⟨e_, HE⟩ : ∃ s, Aside0 ((rdU r).2.1 = s) := ⟨_, ⟨rfl⟩⟩
      go_upto_region 7 with (go_at_call 42; refine (int_some b r base _ HR.out).mono ?_; rintro e w1 ⟨he1, h1, h2⟩; rw [HN.out, HE.out] at he1; subst he1; have HR1 := Aside0.mk (HRR.out.read h1 h2); clear h1 h2; have c0_ : w1.cell? ⟨g4, 0, none⟩ = some (.int .i64 a0) := (blk_cell HR1.out.b4 0).trans rfl; have f0_ := blk_frozen HR1.out.b4 0)
      clear c0_ f0_
      replace HR1 := Aside0.mk (HR1.out.put 0 n_ (b0 := n_) (b1 := a1) (b2 := a2) rfl)
      generalize w1.setCell ⟨g4, 0, none⟩ (.int .i64 n_) = w2 at HR1 ⊢
      by_cases he : e_ = 0
      · have hz : (e_ != 0) = false := by simpa using he
        have HS2 := HST.out.next (by omega) (HE.out.trans he)
        rw [HN.out] at HS2
        have HS3 := Aside0.mk HS2
        clear HS2
        go_wp2
        refine ⟨?_, by simp [intOf]⟩
        exact ⟨1, n_, a1, a2, _, rfl, HR1, HS3⟩
      · have hz : (e_ != 0) = true := by simpa using he
        obtain rfl : q = ((0, 0, 0), e_, xs) := by rw [← HQ.out, HST.out.bad (by omega) (by rw [HE.out]; exact he), HE.out]
        have he2 := Aside0.mk he
        clear he
        have d0_ : w2.cell? ⟨g2, 0, none⟩ = some (.int .i64 0) := (blk_cell HR1.out.b2 0).trans rfl
        have d1_ : w2.cell? ⟨g2, 1, none⟩ = some (.int .i64 0) := (blk_cell HR1.out.b2 1).trans rfl
        have d2_ : w2.cell? ⟨g2, 2, none⟩ = some (.int .i64 0) := (blk_cell HR1.out.b2 2).trans rfl
        have k0_ := blk_frozen HR1.out.b2 0
        have k1_ := blk_frozen HR1.out.b2 1
        have k2_ := blk_frozen HR1.out.b2 2
        go_wp2
        obtain ⟨B_, R_, G_⟩ := HR1.out.fin 0 0 0
        generalize (((w2.setCell ⟨g2, 0, none⟩ (.int .i64 0)).setCell ⟨g2, 1, none⟩ (.int .i64 0)).setCell ⟨g2, 2, none⟩ (.int .i64 0)) = w9 at B_ R_ G_ ⊢
        have p0_ : w9.cell? ⟨g2, 0, none⟩ = some (.int .i64 0) := (blk_cell B_ 0).trans rfl
        have p1_ : w9.cell? ⟨g2, 1, none⟩ = some (.int .i64 0) := (blk_cell B_ 1).trans rfl
        have p2_ : w9.cell? ⟨g2, 2, none⟩ = some (.int .i64 0) := (blk_cell B_ 2).trans rfl
        refine bodyPost_ret (v := .tuple #[.agg #[.int .i64 0, .int .i64 0, .int .i64 0], .int .i64 e_]) (by simp [results, Try.results28, go_sem, p0_, p1_, p2_]) rfl ?_
        exact ⟨rfl, ⟨_, R_, fun h => absurd h he2.out⟩, G_⟩
    · have HR := Aside0.mk (HRR.out.rd)
      obtain ⟨n_, HN⟩ : ∃ s, Aside0 (sgn (rdU r).1 = s) := ⟨_, ⟨rfl⟩⟩
      obtain ⟨e_, HE⟩ : ∃ s, Aside0 ((rdU r).2.1 = s) := ⟨_, ⟨rfl⟩⟩
      go_upto_region 7 with (go_at_call 42; refine (int_some b r base _ HR.out).mono ?_; rintro e w1 ⟨he1, h1, h2⟩; rw [HN.out, HE.out] at he1; subst he1; have HR1 := Aside0.mk (HRR.out.read h1 h2); clear h1 h2; have c0_ : w1.cell? ⟨g4, 1, none⟩ = some (.int .i64 a1) := (blk_cell HR1.out.b4 1).trans rfl; have f0_ := blk_frozen HR1.out.b4 1)
      clear c0_ f0_
      replace HR1 := Aside0.mk (HR1.out.put 1 n_ (b0 := a0) (b1 := n_) (b2 := a2) rfl)
      generalize w1.setCell ⟨g4, 1, none⟩ (.int .i64 n_) = w2 at HR1 ⊢
      by_cases he : e_ = 0
      · have hz : (e_ != 0) = false := by simpa using he
        have HS2 := HST.out.next (by omega) (HE.out.trans he)
        rw [HN.out] at HS2
        have HS3 := Aside0.mk HS2
        clear HS2
        go_wp2
        refine ⟨?_, by simp [intOf]⟩
        exact ⟨2, a0, n_, a2, _, rfl, HR1, HS3⟩
      · have hz : (e_ != 0) = true := by simpa using he
        obtain rfl : q = ((0, 0, 0), e_, xs) := by rw [← HQ.out, HST.out.bad (by omega) (by rw [HE.out]; exact he), HE.out]
        have he2 := Aside0.mk he
        clear he
        have d0_ : w2.cell? ⟨g2, 0, none⟩ = some (.int .i64 0) := (blk_cell HR1.out.b2 0).trans rfl
        have d1_ : w2.cell? ⟨g2, 1, none⟩ = some (.int .i64 0) := (blk_cell HR1.out.b2 1).trans rfl
        have d2_ : w2.cell? ⟨g2, 2, none⟩ = some (.int .i64 0) := (blk_cell HR1.out.b2 2).trans rfl
        have k0_ := blk_frozen HR1.out.b2 0
        have k1_ := blk_frozen HR1.out.b2 1
        have k2_ := blk_frozen HR1.out.b2 2
        go_wp2
        obtain ⟨B_, R_, G_⟩ := HR1.out.fin 0 0 0
        generalize (((w2.setCell ⟨g2, 0, none⟩ (.int .i64 0)).setCell ⟨g2, 1, none⟩ (.int .i64 0)).setCell ⟨g2, 2, none⟩ (.int .i64 0)) = w9 at B_ R_ G_ ⊢
        have p0_ : w9.cell? ⟨g2, 0, none⟩ = some (.int .i64 0) := (blk_cell B_ 0).trans rfl
        have p1_ : w9.cell? ⟨g2, 1, none⟩ = some (.int .i64 0) := (blk_cell B_ 1).trans rfl
        have p2_ : w9.cell? ⟨g2, 2, none⟩ = some (.int .i64 0) := (blk_cell B_ 2).trans rfl
        refine bodyPost_ret (v := .tuple #[.agg #[.int .i64 0, .int .i64 0, .int .i64 0], .int .i64 e_]) (by simp [results, Try.results28, go_sem, p0_, p1_, p2_]) rfl ?_
        exact ⟨rfl, ⟨_, R_, fun h => absurd h he2.out⟩, G_⟩
    · have HR := Aside0.mk (HRR.out.rd)
      obtain ⟨n_, HN⟩ : ∃ s, Aside0 (sgn (rdU r).1 = s) := ⟨_, ⟨rfl⟩⟩
      obtain ⟨e_, HE⟩ : ∃ s, Aside0 ((rdU r).2.1 = s) := ⟨_, ⟨rfl⟩⟩
      go_upto_region 7 with (go_at_call 42; refine (int_some b r base _ HR.out).mono ?_; rintro e w1 ⟨he1, h1, h2⟩; rw [HN.out, HE.out] at he1; subst he1; have HR1 := Aside0.mk (HRR.out.read h1 h2); clear h1 h2; have c0_ : w1.cell? ⟨g4, 2, none⟩ = some (.int .i64 a2) := (blk_cell HR1.out.b4 2).trans rfl; have f0_ := blk_frozen HR1.out.b4 2)
      clear c0_ f0_
      replace HR1 := Aside0.mk (HR1.out.put 2 n_ (b0 := a0) (b1 := a1) (b2 := n_) rfl)
      generalize w1.setCell ⟨g4, 2, none⟩ (.int .i64 n_) = w2 at HR1 ⊢
      by_cases he : e_ = 0
      · have hz : (e_ != 0) = false := by simpa using he
        have HS2 := HST.out.next (by omega) (HE.out.trans he)
        rw [HN.out] at HS2
        have HS3 := Aside0.mk HS2
        clear HS2
        go_wp2
        refine ⟨?_, by simp [intOf]⟩
        exact ⟨3, a0, a1, n_, _, rfl, HR1, HS3⟩
      · have hz : (e_ != 0) = true := by simpa using he
        obtain rfl : q = ((0, 0, 0), e_, xs) := by rw [← HQ.out, HST.out.bad (by omega) (by rw [HE.out]; exact he), HE.out]
        have he2 := Aside0.mk he
        clear he
        have d0_ : w2.cell? ⟨g2, 0, none⟩ = some (.int .i64 0) := (blk_cell HR1.out.b2 0).trans rfl
        have d1_ : w2.cell? ⟨g2, 1, none⟩ = some (.int .i64 0) := (blk_cell HR1.out.b2 1).trans rfl
        have d2_ : w2.cell? ⟨g2, 2, none⟩ = some (.int .i64 0) := (blk_cell HR1.out.b2 2).trans rfl
        have k0_ := blk_frozen HR1.out.b2 0
        have k1_ := blk_frozen HR1.out.b2 1
        have k2_ := blk_frozen HR1.out.b2 2
        go_wp2
        obtain ⟨B_, R_, G_⟩ := HR1.out.fin 0 0 0
        generalize (((w2.setCell ⟨g2, 0, none⟩ (.int .i64 0)).setCell ⟨g2, 1, none⟩ (.int .i64 0)).setCell ⟨g2, 2, none⟩ (.int .i64 0)) = w9 at B_ R_ G_ ⊢
        have p0_ : w9.cell? ⟨g2, 0, none⟩ = some (.int .i64 0) := (blk_cell B_ 0).trans rfl
        have p1_ : w9.cell? ⟨g2, 1, none⟩ = some (.int .i64 0) := (blk_cell B_ 1).trans rfl
        have p2_ : w9.cell? ⟨g2, 2, none⟩ = some (.int .i64 0) := (blk_cell B_ 2).trans rfl
        refine bodyPost_ret (v := .tuple #[.agg #[.int .i64 0, .int .i64 0, .int .i64 0], .int .i64 e_]) (by simp [results, Try.results28, go_sem, p0_, p1_, p2_]) rfl ?_
        exact ⟨rfl, ⟨_, R_, fun h => absurd h he2.out⟩, G_⟩
    · obtain rfl : q = ((a0, a1, a2), 0, r) := by
        rcases HST.out with h | h | h | h
        · omega
        · omega
        · omega
        · rw [← HQ.out, h.2]
      have d0_ : wr.cell? ⟨g2, 0, none⟩ = some (.int .i64 0) := (blk_cell HRR.out.b2 0).trans rfl
      have d1_ : wr.cell? ⟨g2, 1, none⟩ = some (.int .i64 0) := (blk_cell HRR.out.b2 1).trans rfl
      have d2_ : wr.cell? ⟨g2, 2, none⟩ = some (.int .i64 0) := (blk_cell HRR.out.b2 2).trans rfl
      have k0_ := blk_frozen HRR.out.b2 0
      have k1_ := blk_frozen HRR.out.b2 1
      have k2_ := blk_frozen HRR.out.b2 2
      have c0_ : wr.cell? ⟨g4, 0, none⟩ = some (.int .i64 a0) := (blk_cell HRR.out.b4 0).trans rfl
      have c1_ : wr.cell? ⟨g4, 1, none⟩ = some (.int .i64 a1) := (blk_cell HRR.out.b4 1).trans rfl
      have c2_ : wr.cell? ⟨g4, 2, none⟩ = some (.int .i64 a2) := (blk_cell HRR.out.b4 2).trans rfl
      go_wp2
      obtain ⟨B_, R_, G_⟩ := HRR.out.fin a0 a1 a2
      generalize (((wr.setCell ⟨g2, 0, none⟩ (.int .i64 a0)).setCell ⟨g2, 1, none⟩ (.int .i64 a1)).setCell ⟨g2, 2, none⟩ (.int .i64 a2)) = w9 at B_ R_ G_ ⊢
      have p0_ : w9.cell? ⟨g2, 0, none⟩ = some (.int .i64 a0) := (blk_cell B_ 0).trans rfl
      have p1_ : w9.cell? ⟨g2, 1, none⟩ = some (.int .i64 a1) := (blk_cell B_ 1).trans rfl
      have p2_ : w9.cell? ⟨g2, 2, none⟩ = some (.int .i64 a2) := (blk_cell B_ 2).trans rfl
      refine bodyPost_ret (v := .tuple #[.agg #[.int .i64 a0, .int .i64 a1, .int .i64 a2], .int .i64 0]) (by simp [results, Try.results28, go_sem, p0_, p1_, p2_]) rfl ?_
      first | exact ⟨rfl, R_, G_⟩ | exact ⟨rfl, ⟨_, R_, fun _ => rfl⟩, G_⟩
theorem record_ok (b : Nat) (xs : List Int) (base : Nat) (w : World) (h : Rdr w base b xs) :
    Calls Try.prog 28 #[.pointer (some ⟨b, 0, none⟩)] w fun e w' => e = .returned (.tuple #[.agg #[.int .i64 (rec3 xs).1.1, .int .i64 (rec3 xs).1.2.1, .int .i64 (rec3 xs).1.2.2], .int .i64 (rec3 xs).2.1]) ∧ ((rec3 xs).2.1 = 0 → Rdr w' base b (rec3 xs).2.2) ∧ w.grownBy w' (some b) :=
  (record_ok2 b xs base w h).mono fun e w' ⟨h1, ⟨r', h2, h3⟩, h4⟩ => ⟨h1, fun h0 => by rw [← h3 h0]; exact h2, h4⟩
end Go.Proofs.Ytedbgkbjbfdnlaa.Rc
