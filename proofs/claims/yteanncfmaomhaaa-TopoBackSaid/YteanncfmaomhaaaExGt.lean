/- (c04) expr.get: an expression that is read. -/
import Derived.Test.YteanncfmaomhaaaGw
import Derived.Test.YteanncfmaomhaaaExGtP
import Derived.Test.YteanncfmaomhaaaRcI
import Derived.Test.YteanncfmaomhaaaExKids
namespace Go.Proofs.Yteanncfmaomhaaa.Ex
open Go Go.RowKit Go.Proofs.Yteanncfmaomhaaa.Pk Go.Proofs.YteanncfmaomhaaaW.PrintWords Go.Proofs.YteanncfmaomhaaaW.PrintLast Go.Proofs.YteanncfmaomhaaaW.PrintMore
set_option linter.unusedVariables false
set_option linter.unusedSimpArgs false
/-- What a call may turn of old memory: the reader's block and the count's. -/
structure GK (w w' : World) (b bl : Nat) : Prop where
  os : w'.os = w.os
  tape : w'.tape = w.tape
  output : w'.output = w.output
  size : w.heap.size ≤ w'.heap.size
  block : ∀ k, k < w.heap.size → k ≠ b → k ≠ bl → w'.heap[k]? = w.heap[k]?
theorem GK.refl (w : World) (b bl : Nat) : GK w w b bl := ⟨rfl, rfl, rfl, Nat.le_refl _, fun _ _ _ _ => rfl⟩
theorem GK.below {w w1 w2 : World} {b bl : Nat} (h : GK w w1 b bl) (hb : Below w1.heap.size w1 w2) : GK w w2 b bl :=
  ⟨hb.os.trans h.os, hb.tape.trans h.tape, hb.output.trans h.output, Nat.le_trans h.size hb.size, fun k hk h1 h2 => (hb.block k (Nat.lt_of_lt_of_le hk h.size)).trans (h.block k hk h1 h2)⟩
theorem GK.grown {w w1 w2 : World} {b bl j : Nat} (h : GK w w1 b bl) (hg : w1.grownBy w2 (some j)) (hj : j = b ∨ j = bl ∨ w.heap.size ≤ j) : GK w w2 b bl :=
  ⟨hg.os.trans h.os, hg.tape.trans h.tape, hg.output.trans h.output, Nat.le_trans h.size hg.size, fun k hk h1 h2 => (hg.block k (Nat.lt_of_lt_of_le hk h.size) (fun e => by injection e with e; omega)).trans (h.block k hk h1 h2)⟩
theorem GK.trans {w w1 w2 : World} {b bl : Nat} (h : GK w w1 b bl) (h2 : GK w1 w2 b bl) : GK w w2 b bl :=
  ⟨h2.os.trans h.os, h2.tape.trans h.tape, h2.output.trans h.output, Nat.le_trans h.size h2.size, fun k hk a1 a2 => (h2.block k (Nat.lt_of_lt_of_le hk h.size) a1 a2).trans (h.block k hk a1 a2)⟩
theorem grown_set (w : World) (g j : Nat) (v : Value) : w.grownBy (w.setCell ⟨g, j, none⟩ v) (some g) :=
  ⟨rfl, rfl, rfl, by simp, fun k _ hne => Below.heap_setCell w _ v k (fun e => hne (by rw [e]))⟩
/-- Another block, of another type, is turned. -/
theorem rdr_turn {w w1 : World} {base b g t : Nat} {xs : List Int} {cs : Array Value} (h : Rdr w base b xs) (hne : b ≠ g) (hc : w.heap[g]? = some (.cells cs t (0, 0))) (ht : t ≠ 5) (hg : w.grownBy w1 (some g)) : Rdr w1 base b xs := by
  obtain ⟨k1, k2, v, k3, k4⟩ := h
  refine ⟨k1, k2, v, (hg.block b (Array.getElem?_eq_some_iff.1 k3).1 (by simpa using hne)).trans k3, ?_⟩
  exact Kd.Q_mono (Kd.Q_grown (Kd.Q_types k4 hc (by simp [Kd.int, Kd.scalar]; exact fun h => ht h.symm)) hg (fun k hk => by simpa using hk.2)) (fun _ _ => trivial)
def LC (w : World) (bl : Nat) (n : Nat) : Prop := w.heap[bl]? = some (.cells #[.int .i64 (n : Int)] 3 (0, 0))
def GPost (w : World) (b bl base : Nat) (R : GotE) (e : Ending) (w' : World) : Prop :=
  GK w w' b bl ∧ match R with
    | .inl er => e = .returned (.tuple #[.agg #[.int .i64 0, .int .i64 0, .slice none 0 0], .int .i64 er]) ∧ er ≠ 0
    | .inr (x, r, l1) => ∃ v, e = .returned (.tuple #[.agg #[.int .i64 x.f0, .int .i64 x.f1, v], .int .i64 0]) ∧ Kd.R k38 38 w' w.heap.size (fun _ => True) v x.f2 ∧ wfE x ∧ Rdr w' base b r ∧ LC w' bl l1 ∧ l1 ≤ 64
theorem GPost.bad {w w' : World} {b bl base : Nat} {R : GotE} {er : Int} (h : R = .inl er) (hk : GK w w' b bl) (hn : er ≠ 0) : GPost w b bl base R (.returned (.tuple #[.agg #[.int .i64 0, .int .i64 0, .slice none 0 0], .int .i64 er])) w' := by
  subst h
  exact ⟨hk, rfl, hn⟩
theorem GPost.good {w w' : World} {b bl base : Nat} {R : GotE} {x : E} {r : List Int} {l1 : Nat} (h : R = .inr (x, r, l1)) (hk : GK w w' b bl) (v : Value) {e : Ending} (he : e = .returned (.tuple #[.agg #[.int .i64 x.f0, .int .i64 x.f1, v], .int .i64 0])) (hz : Kd.R k38 38 w' w.heap.size (fun _ => True) v x.f2) (hw : wfE x) (hr : Rdr w' base b r) (hl : LC w' bl l1) (h64 : l1 ≤ 64) : GPost w b bl base R e w' := by
  subst h
  exact ⟨hk, v, he, hz, hw, hr, hl, h64⟩
theorem GK.grownO {w w1 w2 : World} {b bl : Nat} {row : Option Nat} (h : GK w w1 b bl) (hg : w1.grownBy w2 row) (hj : ∀ j, row = some j → j = b ∨ j = bl ∨ w.heap.size ≤ j) : GK w w2 b bl :=
  ⟨hg.os.trans h.os, hg.tape.trans h.tape, hg.output.trans h.output, Nat.le_trans h.size hg.size, fun k hk h1 h2 => (hg.block k (Nat.lt_of_lt_of_le hk h.size) (fun e => by have := hj k e.symm; omega)).trans (h.block k hk h1 h2)⟩
theorem rdr_row {w w1 : World} {base b lo : Nat} {xs : List Int} {ok : Nat → Prop} {v : Value} {L : List E} (h : Rdr w base b xs) (hR : Kd.R k38 38 w lo ok v L) (hlo : b < lo) (hg : w.grownBy w1 v.ownBlock) : Rdr w1 base b xs := by
  cases hv : v.ownBlock with
  | none =>
    rw [hv] at hg
    exact h.below ⟨hg.os, hg.tape, hg.output, hg.size, fun k hk => hg.block k hk (by simp)⟩
  | some j =>
    rw [hv] at hg
    obtain ⟨inner, ho⟩ := Kd.R_own hR
    obtain ⟨cells, hc⟩ := own_typed ho j hv
    have := Kd.R_base hR j hv
    exact rdr_turn h (by omega) hc (by decide) hg
theorem below_any (lo : Nat) (w : World) : Below lo w w := ⟨rfl, rfl, rfl, Nat.le_refl _, fun _ _ => rfl⟩
theorem infoE : (Try.prog.info? 38).map (fun i => (i.zero, i.size, i.bytes)) = some (some (.agg #[.int .i64 0, .int .i64 0, .slice none 0 0]), 3, 40) := by kernel_rfl
theorem kidsOf_nonneg (a : Int) : 0 ≤ kidsOf a := by unfold kidsOf; split; decide; split; decide; split <;> decide
theorem kidsOf_most (a : Int) : kidsOf a ≤ 3 := by unfold kidsOf; split; decide; split; decide; split <;> decide
set_option maxHeartbeats 4000000 in
set_option maxRecDepth 1000000 in
theorem get_ok (base b bl : Nat) : ∀ d : Nat, d ≤ 16 → ∀ (xs : List Int) (lf : Nat) (w : World), lf ≤ 64 → Rdr w base b xs → LC w bl lf → b ≠ bl →
    Calls Try.prog 51 #[.pointer (some ⟨b, 0, none⟩), .int .i64 (d : Int), .pointer (some ⟨bl, 0, none⟩)] w (GPost w b bl base (getE d xs lf)) := by
  intro d
  induction d with
  | zero =>
    intro _ xs lf w hlf hr hl hne
    have HG := Aside0.mk (GK.refl w b bl)
    clear hr hl
    go_enter Try.func51, Try.ntmps51
    go_upto_region 1 with fail
    have B6 := Aside0.mk (heap_alloc_new w (.cells #[.int .i64 0, .int .i64 0, .slice none 0 0] 38 (0, 0)))
    have hb_ := below_alloc (Below.refl w.heap.size w) (.cells #[.int .i64 0, .int .i64 0, .slice none 0 0] 38 (0, 0))
    have hs_ : (w.alloc (.cells #[.int .i64 0, .int .i64 0, .slice none 0 0] 38 (0, 0))).heap.size = w.heap.size + 1 := by simp
    generalize w.alloc (.cells #[.int .i64 0, .int .i64 0, .slice none 0 0] 38 (0, 0)) = w1 at B6 hb_ hs_ ⊢
    replace HG := Aside0.mk (HG.out.below hb_)
    clear hb_
    clear hs_
    obtain ⟨g6, HG6'⟩ : ∃ g, Aside0 (w.heap.size = g) := ⟨_, ⟨rfl⟩⟩
    have HG6 : Aside0 (w.heap.size ≤ g6) := ⟨by rw [HG6'.out]; exact Nat.le_refl _⟩
    rw [HG6'.out] at B6 ⊢
    clear HG6'
    have r0_ := (blk_cell B6.out 0).trans (rfl : _ = some ((.int .i64 0) : Value))
    have r1_ := (blk_cell B6.out 1).trans (rfl : _ = some ((.int .i64 0) : Value))
    have r2_ := (blk_cell B6.out 2).trans (rfl : _ = some ((.slice none 0 0) : Value))
    have rf0_ := blk_frozen B6.out 0
    have rf1_ := blk_frozen B6.out 1
    have rf2_ := blk_frozen B6.out 2
    go_wp2_with fail
    have BZ := blk_put (blk_set (blk_set B6.out 0 (.int .i64 0)) 1 (.int .i64 0)) 2 (.slice none 0 0) (rfl : _ = (#[.int .i64 0, .int .i64 0, .slice none 0 0] : Array Value))
    have GZ := ((HG.out.grown (grown_set w1 g6 0 (.int .i64 0)) (.inr (.inr HG6.out))).grown (grown_set _ g6 1 (.int .i64 0)) (.inr (.inr HG6.out))).grown (grown_set _ g6 2 (.slice none 0 0)) (.inr (.inr HG6.out))
    clear r0_ r1_ r2_ rf0_ rf1_ rf2_
    generalize (((w1.setCell ⟨g6, 0, none⟩ (.int .i64 0)).setCell ⟨g6, 1, none⟩ (.int .i64 0)).setCell ⟨g6, 2, none⟩ (.slice none 0 0)) = wz at BZ GZ ⊢
    have r0_ := (blk_cell BZ 0).trans (rfl : _ = some ((.int .i64 0) : Value))
    have r1_ := (blk_cell BZ 1).trans (rfl : _ = some ((.int .i64 0) : Value))
    have r2_ := (blk_cell BZ 2).trans (rfl : _ = some ((.slice none 0 0) : Value))
    refine bodyPost_ret (v := .tuple #[.agg #[.int .i64 0, .int .i64 0, .slice none 0 0], .int .i64 11]) (by simp [results, Try.results51, go_sem, r0_, r1_, r2_]) rfl ?_
    exact GPost.bad (rfl) GZ (by decide)
  | succ d ih =>
    intro hd xs lf w hlf hr hl hne
    have HG := Aside0.mk (GK.refl w b bl)
    have HR := Aside0.mk hr
    have HLC := Aside0.mk hl
    have HNE := Aside0.mk hne
    have IH := Aside0.mk (ih (by omega))
    have HOLD : Aside0 (b < w.heap.size ∧ bl < w.heap.size) := ⟨⟨hr.lt, blk_lt hl⟩⟩
    obtain ⟨D, HD⟩ : ∃ D : Int, Aside0 (((d + 1 : Nat) : Int) = D) := ⟨_, ⟨rfl⟩⟩
    have hD : 1 ≤ D ∧ D ≤ 16 ∧ D - 1 = (d : Int) := by have := HD.out; omega
    rw [HD.out]
    clear hr hl hne ih
    go_enter Try.func51, Try.ntmps51
    go_upto_region 1 with fail
    have B6 := Aside0.mk (heap_alloc_new w (.cells #[.int .i64 0, .int .i64 0, .slice none 0 0] 38 (0, 0)))
    have hb_ := below_alloc (Below.refl w.heap.size w) (.cells #[.int .i64 0, .int .i64 0, .slice none 0 0] 38 (0, 0))
    have hs_ : (w.alloc (.cells #[.int .i64 0, .int .i64 0, .slice none 0 0] 38 (0, 0))).heap.size = w.heap.size + 1 := by simp
    generalize w.alloc (.cells #[.int .i64 0, .int .i64 0, .slice none 0 0] 38 (0, 0)) = w1 at B6 hb_ hs_ ⊢
    replace HLC := Aside0.mk (blk_below HLC.out hb_)
    replace HG := Aside0.mk (HG.out.below hb_)
    replace HR := Aside0.mk (HR.out.below hb_)
    clear hb_
    have HSZ := Aside0.mk hs_
    clear hs_
    obtain ⟨g6, HG6'⟩ : ∃ g, Aside0 (w.heap.size = g) := ⟨_, ⟨rfl⟩⟩
    have HG6 : Aside0 (w.heap.size ≤ g6) := ⟨by rw [HG6'.out]; exact Nat.le_refl _⟩
    rw [HG6'.out] at B6 HSZ ⊢
    have HN6 : Aside0 (b ≠ g6 ∧ bl ≠ g6) := ⟨by have := HOLD.out; have := HG6'.out; omega⟩
    clear HG6'
    have hd0 : (D == 0) = false := beq_eq_false_iff_ne.2 (by omega)
    have l0_ := (blk_cell HLC.out 0).trans (rfl : _ = some (.int .i64 (lf : Int) : Value))
    have lz_ := blk_frozen HLC.out 0
    by_cases h0 : lf = 0
    · have hl0 : ((lf : Int) == 0) = true := by simp [h0]
      have hl0b : (lf == 0) = true := by simp [h0]
      have HGE : Aside0 (getE (d + 1) xs lf = .inl 11) := ⟨by rw [h0, get_zero]⟩
      clear h0
      have r0_ := (blk_cell B6.out 0).trans (rfl : _ = some ((.int .i64 0) : Value))
      have r1_ := (blk_cell B6.out 1).trans (rfl : _ = some ((.int .i64 0) : Value))
      have r2_ := (blk_cell B6.out 2).trans (rfl : _ = some ((.slice none 0 0) : Value))
      have rf0_ := blk_frozen B6.out 0
      have rf1_ := blk_frozen B6.out 1
      have rf2_ := blk_frozen B6.out 2
      go_wp2_with fail
      have BZ := blk_put (blk_set (blk_set B6.out 0 (.int .i64 0)) 1 (.int .i64 0)) 2 (.slice none 0 0) (rfl : _ = (#[.int .i64 0, .int .i64 0, .slice none 0 0] : Array Value))
      have GZ := ((HG.out.grown (grown_set w1 g6 0 (.int .i64 0)) (.inr (.inr HG6.out))).grown (grown_set _ g6 1 (.int .i64 0)) (.inr (.inr HG6.out))).grown (grown_set _ g6 2 (.slice none 0 0)) (.inr (.inr HG6.out))
      clear r0_ r1_ r2_ rf0_ rf1_ rf2_
      generalize (((w1.setCell ⟨g6, 0, none⟩ (.int .i64 0)).setCell ⟨g6, 1, none⟩ (.int .i64 0)).setCell ⟨g6, 2, none⟩ (.slice none 0 0)) = wz at BZ GZ ⊢
      have r0_ := (blk_cell BZ 0).trans (rfl : _ = some ((.int .i64 0) : Value))
      have r1_ := (blk_cell BZ 1).trans (rfl : _ = some ((.int .i64 0) : Value))
      have r2_ := (blk_cell BZ 2).trans (rfl : _ = some ((.slice none 0 0) : Value))
      refine bodyPost_ret (v := .tuple #[.agg #[.int .i64 0, .int .i64 0, .slice none 0 0], .int .i64 11]) (by simp [results, Try.results51, go_sem, r0_, r1_, r2_]) rfl ?_
      exact GPost.bad (HGE.out) GZ (by decide)
    have hl0 : ((lf : Int) == 0) = false := by simp; omega
    have hl0b : (lf == 0) = false := by simp; omega
    have H0 := Aside0.mk h0
    go_upto_region 4 with fail
    clear l0_ lz_ hl0 hl0b
    have hset := grown_set w1 bl 0 (.int .i64 ((lf : Int) - 1))
    replace B6 := Aside0.mk (blk_grown B6.out hset (by have := HN6.out; intro h; injection h with h; omega))
    replace HR := Aside0.mk (rdr_turn HR.out HNE.out HLC.out (by decide) hset)
    replace HG := Aside0.mk (HG.out.grown hset (.inr (.inl rfl)))
    have hlc2 := blk_put HLC.out 0 (.int .i64 ((lf : Int) - 1)) (rfl : _ = (#[.int .i64 ((lf : Int) - 1)] : Array Value))
    clear hset HLC
    generalize w1.setCell ⟨bl, 0, none⟩ (.int .i64 ((lf : Int) - 1)) = w2 at B6 HR HG hlc2 ⊢
    rw [show ((lf : Int) - 1) = ((lf - 1 : Nat) : Int) by omega] at hlc2
    have HLC : Aside0 (LC w2 bl (lf - 1)) := ⟨hlc2⟩
    clear hlc2
    go_wp2_with fail
    refine (uint_some b xs base w2 HR.out).mono ?_
    rintro e_ w3 ⟨he1, h1, h2⟩
    obtain ⟨n, HN⟩ : ∃ n, Aside0 ((rdU xs).1 = n) := ⟨_, ⟨rfl⟩⟩
    obtain ⟨er, HER⟩ : ∃ n, Aside0 ((rdU xs).2.1 = n) := ⟨_, ⟨rfl⟩⟩
    have HRG := Aside0.mk (rdU_range HR.out.byt)
    rw [HN.out, HER.out] at he1
    rw [HN.out] at HRG
    subst he1
    replace B6 := Aside0.mk (blk_grown B6.out h2 (by have := HN6.out; intro h; injection h with h; omega))
    replace HLC : Aside0 (LC w3 bl (lf - 1)) := ⟨blk_grown HLC.out h2 (by have := HNE.out; intro h; injection h with h; omega)⟩
    replace HG := Aside0.mk (HG.out.grown h2 (.inl rfl))
    replace HR := Aside0.mk h1
    clear h1 h2
    have HSG3 := Aside0.mk HG.out.size
    have HB6L := Aside0.mk (blk_lt B6.out)
    by_cases her : er = 0
    · have herb : (er != 0) = false := by simpa using her
      by_cases hin : 1 ≤ n ∧ n ≤ 16
      · have hrg := HRG.out
        have hmn : (if 1000 < n then (1000 : Int) else n) = n := by rw [if_neg (by omega)]
        have hw64 : wrap64 n = n := by unfold wrap64; omega
        go_upto_region 8 with fail
        have B10 := Aside0.mk (heap_alloc_new w3 (.cells #[.int .i64 n, .int .i64 0, .slice none 0 0] 38 (0, 0)))
        have hb_ := below_alloc (Below.refl w3.heap.size w3) (.cells #[.int .i64 n, .int .i64 0, .slice none 0 0] 38 (0, 0))
        have hs_ : (w3.alloc (.cells #[.int .i64 n, .int .i64 0, .slice none 0 0] 38 (0, 0))).heap.size = w3.heap.size + 1 := by simp
        generalize w3.alloc (.cells #[.int .i64 n, .int .i64 0, .slice none 0 0] 38 (0, 0)) = w4 at B10 hb_ hs_ ⊢
        replace B6 := Aside0.mk (blk_below B6.out hb_)
        replace HG := Aside0.mk (HG.out.below hb_)
        replace HR := Aside0.mk (HR.out.below hb_)
        replace HLC : Aside0 (LC w4 bl (lf - 1)) := ⟨blk_below HLC.out hb_⟩
        clear hb_
        clear hs_
        obtain ⟨g10, HG10'⟩ : ∃ g, Aside0 (w3.heap.size = g) := ⟨_, ⟨rfl⟩⟩
        rw [HG10'.out] at B10 ⊢
        have HG10 : Aside0 (w.heap.size ≤ g10) := ⟨by rw [← HG10'.out]; exact HSG3.out⟩
        have HN10 : Aside0 (b ≠ g10 ∧ bl ≠ g10 ∧ g6 ≠ g10) := ⟨by have := HOLD.out; have := HG10.out; have := HG10'.out; have := HB6L.out; omega⟩
        clear HG10' hmn hw64
        have x0_ := (blk_cell B10.out 0).trans (rfl : _ = some (.int .i64 n : Value))
        go_wp2_with fail
        refine (expr_kids.calls n (kidsOf n) true _ (by unfold expr_kids.f; rw [if_pos hin])).mono ?_
        rintro e_ w5 ⟨rfl, hb_⟩
        clear x0_
        replace B6 := Aside0.mk (blk_below B6.out hb_)
        replace B10 := Aside0.mk (blk_below B10.out hb_)
        replace HG := Aside0.mk (HG.out.below hb_)
        replace HR := Aside0.mk (HR.out.below hb_)
        replace HLC : Aside0 (LC w5 bl (lf - 1)) := ⟨blk_below HLC.out hb_⟩
        clear hb_
        have x0_ := (blk_cell B10.out 0).trans (rfl : _ = some (.int .i64 n : Value))
        have HI1 : Aside0 (I64 n) := ⟨by unfold I64; omega⟩
        by_cases hn1 : n = 1
        · have hn1b : (n == 1) = true := by simpa using hn1
          have HN1 := Aside0.mk hn1
          clear hn1
          obtain ⟨r1, HR1⟩ : ∃ r, Aside0 ((rdU xs).2.2 = r) := ⟨_, ⟨rfl⟩⟩
          rw [HR1.out] at HR
          go_wp2_with fail
          refine (int_some b r1 base _ HR.out).mono ?_
          rintro e_ w6 ⟨he1, h1, h2⟩
          obtain ⟨N, HNV⟩ : ∃ N, Aside0 (sgn (rdU r1).1 = N) := ⟨_, ⟨rfl⟩⟩
          obtain ⟨er2, HER2⟩ : ∃ N, Aside0 ((rdU r1).2.1 = N) := ⟨_, ⟨rfl⟩⟩
          obtain ⟨r0, HR0⟩ : ∃ N, Aside0 ((rdU r1).2.2 = N) := ⟨_, ⟨rfl⟩⟩
          have HI2 : Aside0 (I64 N) := ⟨by rw [← HNV.out]; have := rdU_range HR.out.byt; exact sgn_range this.1 this.2⟩
          rw [HNV.out, HER2.out] at he1
          rw [HR0.out] at h1
          subst he1
          clear x0_
          have n6 := HN6.out
          have n10 := HN10.out
          replace B6 := Aside0.mk (blk_grown B6.out h2 (by intro h; injection h with h; omega))
          replace B10 := Aside0.mk (blk_grown B10.out h2 (by intro h; injection h with h; omega))
          replace HLC : Aside0 (LC w6 bl (lf - 1)) := ⟨blk_grown HLC.out h2 (by have := HNE.out; intro h; injection h with h; omega)⟩
          replace HG := Aside0.mk (HG.out.grown h2 (.inl rfl))
          replace HR := Aside0.mk h1
          clear h1 h2
          have y1_ := (blk_cell B10.out 1).trans (rfl : _ = some (.int .i64 0 : Value))
          have yf1_ := blk_frozen B10.out 1
          go_upto_region 13 with fail
          clear y1_ yf1_
          have hset := grown_set w6 g10 1 (.int .i64 N)
          have hbx := blk_put B10.out 1 (.int .i64 N) (rfl : _ = (#[.int .i64 n, .int .i64 N, .slice none 0 0] : Array Value))
          have hrd := rdr_turn HR.out n10.1 B10.out (by decide) hset
          replace B6 := Aside0.mk (blk_grown B6.out hset (by intro h; injection h with h; omega))
          replace HLC : Aside0 (LC _ bl (lf - 1)) := ⟨blk_grown HLC.out hset (by intro h; injection h with h; omega)⟩
          replace HR := Aside0.mk hrd
          replace B10 := Aside0.mk hbx
          replace HG := Aside0.mk (HG.out.grown hset (.inr (.inr HG10.out)))
          clear hset hbx hrd n6 n10
          generalize w6.setCell ⟨g10, 1, none⟩ (.int .i64 N) = w5 at B6 HLC HR B10 HG ⊢
          by_cases her2 : er2 = 0
          · have herb2 : (er2 != 0) = false := by simpa using her2
            have HHD : Aside0 (headE xs = .inr (n, N, r0)) := ⟨by
              rw [← HNV.out, ← HR0.out, HN1.out, ← HR1.out]
              exact head_con (by rw [HER.out]; exact her) (by rw [HN.out]; exact HN1.out) (by rw [HR1.out, HER2.out]; exact her2)⟩
            clear her2
            go_upto_region 15 with fail
            clear hn1b
            obtain ⟨K, HK⟩ : ∃ K, Aside0 ((kidsOf n).toNat = K) := ⟨_, ⟨rfl⟩⟩
            have HKI : Aside0 (kidsOf n = (K : Int)) := ⟨by rw [← HK.out]; have := kidsOf_nonneg n; omega⟩
            have hK3 : K ≤ 3 := by have := HKI.out; have := kidsOf_most n; omega
            obtain ⟨R, HRD⟩ : ∃ R, Aside0 (kidsE (getE d) K r0 (lf - 1) = R) := ⟨_, ⟨rfl⟩⟩
            obtain ⟨lo, HLO⟩ : ∃ lo, Aside0 (w5.heap.size = lo) := ⟨_, ⟨rfl⟩⟩
            have HLOW : Aside0 (b < lo ∧ bl < lo ∧ g6 < lo ∧ g10 < lo ∧ w.heap.size ≤ lo) := ⟨by
              have h1 := blk_lt B6.out
              have h2 := blk_lt B10.out
              have h3 := HG.out.size
              have h4 := HOLD.out
              have h5 := HLO.out
              omega⟩
            rw [HKI.out]
            go_wp2_with fail
            go_loopw [65] (fun v65 wr => ∃ (i : Nat) (acc : List E) (xi : List Int) (li : Nat) (A2 : Option Addr) (c2 : Nat), i ≤ K ∧ v65 = .int .i64 (i : Int) ∧ Aside0 (wr.heap[g6]? = some (.cells #[.int .i64 0, .int .i64 0, .slice none 0 0] 38 (0, 0))) ∧ Aside0 (wr.heap[g10]? = some (.cells #[.int .i64 n, .int .i64 N, .slice A2 acc.length c2] 38 (0, 0))) ∧ Aside0 (GK w wr b bl) ∧ Aside0 (Rdr wr base b xi) ∧ Aside0 (LC wr bl li) ∧ Aside0 (lo ≤ wr.heap.size ∧ Kd.R k38 38 wr lo (fun _ => True) (.slice A2 acc.length c2) acc ∧ ∀ x ∈ acc, wfE x) ∧ Aside0 (li ≤ 64 ∧ acc.length = i ∧ R = ahead acc (kidsE (getE d) (K - i) xi li))) (fun v65 _ => K - (intOf v65).toNat)
            case atStart => exact ⟨0, [], r0, lf - 1, none, 0, by omega, rfl, B6, B10, HG, HR, HLC, ⟨⟨by rw [HLO.out]; exact Nat.le_refl _, Kd.R_nil _ _ _ _ _, fun x hx => (List.not_mem_nil hx).elim⟩⟩, ⟨⟨by omega, rfl, by rw [Nat.sub_zero, ahead_nil]; exact HRD.out.symm⟩⟩⟩
            case round =>
              clear B6 B10 HG HR HLC HLO
              obtain ⟨i, acc, xi, li, A2, c2, hi, rfl, B6, B10, HG, HR, HLC, HROW, HST⟩ := hrel
              by_cases hlt : i < K
              · have h4 : decide ((i : Int) < (K : Int)) = true := by simp; omega
                have h4b : decide (i < K) = true := by simp; omega
                have hD1 := hD.2.2
                go_wp2_with fail
                refine (IH.out xi li _ HST.out.1 HR.out HLC.out HNE.out).mono ?_
                rintro e_ w6 ⟨hgk, hp⟩
                clear h4 h4b
                obtain ⟨S, HS⟩ : ∃ S, Aside0 (wr.heap.size = S) := ⟨_, ⟨rfl⟩⟩
                have HSL : Aside0 (lo ≤ S) := ⟨by rw [← HS.out]; exact HROW.out.1⟩
                have low := HLOW.out
                have n6 := HN6.out
                have n10 := HN10.out
                replace B6 := Aside0.mk ((hgk.block g6 (by have := HSL.out; have := HS.out; omega) (by omega) (by omega)).trans B6.out)
                replace B10 := Aside0.mk ((hgk.block g10 (by have := HSL.out; have := HS.out; omega) (by omega) (by omega)).trans B10.out)
                replace HG := Aside0.mk (HG.out.trans hgk)
                have HBQ : Aside0 (∀ j, (Value.slice A2 acc.length c2).ownBlock = some j → lo ≤ j ∧ j < S) := ⟨fun j hj => by have h := (Kd.R_bound HROW.out.2.1).1 j hj; rw [HS.out] at h; exact ⟨h.2.1, h.2.2.1⟩⟩
                have hrow6 := Kd.R_mono (Kd.R_move (Kd.R_bound HROW.out.2.1) (fun k h1 => hgk.block k h1.2.2.1 (by have := h1.2.1; omega) (by have := h1.2.1; omega))) (fun _ _ => trivial)
                replace HROW : Aside0 (lo ≤ w6.heap.size ∧ Kd.R k38 38 w6 lo (fun _ => True) (.slice A2 acc.length c2) acc ∧ ∀ x ∈ acc, wfE x) := ⟨⟨Nat.le_trans HROW.out.1 hgk.size, hrow6, HROW.out.2.2⟩⟩
                clear hrow6
                have HSZ6 : Aside0 (S ≤ w6.heap.size) := ⟨by rw [← HS.out]; exact hgk.size⟩
                rw [HS.out] at hp
                clear hgk HR HLC HS low n6 n10 wr
                cases hg : getE d xi li with
                | inl er2 =>
                  rw [hg] at hp
                  obtain ⟨rfl, hnz⟩ := hp
                  have herb2 : (er2 != 0) = true := by simpa using hnz
                  have HGE : Aside0 (getE (d + 1) xs lf = .inl er2) := ⟨by
                    refine get_kids H0.out HHD.out ?_
                    rw [HK.out, HRD.out, HST.out.2.2, show K - i = K - i - 1 + 1 by omega]
                    exact kids_bad hg⟩
                  have HNZ := Aside0.mk hnz
                  clear hnz hg
                  go_upto_region 18 with fail
                  have B13 := Aside0.mk (heap_alloc_new w6 (.cells #[.int .i64 0, .int .i64 0, .slice none 0 0] 38 (0, 0)))
                  have hb_ := below_alloc (Below.refl w6.heap.size w6) (.cells #[.int .i64 0, .int .i64 0, .slice none 0 0] 38 (0, 0))
                  have hs_ : (w6.alloc (.cells #[.int .i64 0, .int .i64 0, .slice none 0 0] 38 (0, 0))).heap.size = w6.heap.size + 1 := by simp
                  generalize w6.alloc (.cells #[.int .i64 0, .int .i64 0, .slice none 0 0] 38 (0, 0)) = w7 at B13 hb_ hs_ ⊢
                  replace B6 := Aside0.mk (blk_below B6.out hb_)
                  replace HG := Aside0.mk (HG.out.below hb_)
                  clear hb_
                  clear hs_
                  have r0_ := (blk_cell B6.out 0).trans (rfl : _ = some ((.int .i64 0) : Value))
                  have r1_ := (blk_cell B6.out 1).trans (rfl : _ = some ((.int .i64 0) : Value))
                  have r2_ := (blk_cell B6.out 2).trans (rfl : _ = some ((.slice none 0 0) : Value))
                  have rf0_ := blk_frozen B6.out 0
                  have rf1_ := blk_frozen B6.out 1
                  have rf2_ := blk_frozen B6.out 2
                  go_wp2_with fail
                  have BZ := blk_put (blk_set (blk_set B6.out 0 (.int .i64 0)) 1 (.int .i64 0)) 2 (.slice none 0 0) (rfl : _ = (#[.int .i64 0, .int .i64 0, .slice none 0 0] : Array Value))
                  have GZ := ((HG.out.grown (grown_set w7 g6 0 (.int .i64 0)) (.inr (.inr HG6.out))).grown (grown_set _ g6 1 (.int .i64 0)) (.inr (.inr HG6.out))).grown (grown_set _ g6 2 (.slice none 0 0)) (.inr (.inr HG6.out))
                  clear r0_ r1_ r2_ rf0_ rf1_ rf2_
                  generalize (((w7.setCell ⟨g6, 0, none⟩ (.int .i64 0)).setCell ⟨g6, 1, none⟩ (.int .i64 0)).setCell ⟨g6, 2, none⟩ (.slice none 0 0)) = wz at BZ GZ ⊢
                  have r0_ := (blk_cell BZ 0).trans (rfl : _ = some ((.int .i64 0) : Value))
                  have r1_ := (blk_cell BZ 1).trans (rfl : _ = some ((.int .i64 0) : Value))
                  have r2_ := (blk_cell BZ 2).trans (rfl : _ = some ((.slice none 0 0) : Value))
                  refine bodyPost_ret (v := .tuple #[.agg #[.int .i64 0, .int .i64 0, .slice none 0 0], .int .i64 er2]) (by simp [results, Try.results51, go_sem, r0_, r1_, r2_]) rfl ?_
                  exact GPost.bad (HGE.out) GZ HNZ.out
                | inr q =>
                  obtain ⟨k, r, l1⟩ := q
                  rw [hg] at hp
                  obtain ⟨v3, rfl, hz, hwk, hr6, hl6, hl64⟩ := hp
                  obtain ⟨A3, c3, rfl⟩ := Kd.R_slice hz
                  have HZ := Aside0.mk hz
                  have HWK := Aside0.mk hwk
                  have HR := Aside0.mk hr6
                  have HLC := Aside0.mk hl6
                  have HL64 := Aside0.mk hl64
                  have HRN : Aside0 (R = ahead (acc ++ [k]) (kidsE (getE d) (K - (i + 1)) r l1)) := ⟨by
                    rw [HST.out.2.2, show K - i = K - (i + 1) + 1 by omega]
                    exact kids_good hg⟩
                  have HLEN := Aside0.mk HST.out.2.1
                  clear hz hwk hr6 hl6 hl64 hg HST
                  go_upto_region 18 with fail
                  have B13 := Aside0.mk (heap_alloc_new w6 (.cells #[.int .i64 k.f0, .int .i64 k.f1, .slice A3 k.f2.length c3] 38 (0, 0)))
                  have hb_ := below_alloc (Below.refl w6.heap.size w6) (.cells #[.int .i64 k.f0, .int .i64 k.f1, .slice A3 k.f2.length c3] 38 (0, 0))
                  have hs_ : (w6.alloc (.cells #[.int .i64 k.f0, .int .i64 k.f1, .slice A3 k.f2.length c3] 38 (0, 0))).heap.size = w6.heap.size + 1 := by simp
                  generalize w6.alloc (.cells #[.int .i64 k.f0, .int .i64 k.f1, .slice A3 k.f2.length c3] 38 (0, 0)) = w7 at B13 hb_ hs_ ⊢
                  replace B6 := Aside0.mk (blk_below B6.out hb_)
                  replace B10 := Aside0.mk (blk_below B10.out hb_)
                  replace HG := Aside0.mk (HG.out.below hb_)
                  replace HR := Aside0.mk (HR.out.below hb_)
                  replace HZ := Aside0.mk (Kd.R_below HZ.out hb_)
                  replace HLC : Aside0 (LC w7 bl l1) := ⟨blk_below HLC.out hb_⟩
                  have HWA := Aside0.mk HROW.out.2.2
                  have hrow7 := Kd.R_below HROW.out.2.1 hb_
                  have HLO7 : Aside0 (lo ≤ w7.heap.size) := ⟨Nat.le_trans HROW.out.1 hb_.size⟩
                  replace HROW := Aside0.mk hrow7
                  clear hb_ hrow7
                  obtain ⟨g13, HG13⟩ : ∃ g, Aside0 (w6.heap.size = g) := ⟨_, ⟨rfl⟩⟩
                  rw [HG13.out] at B13 ⊢
                  have HS7 : Aside0 (S ≤ w7.heap.size) := ⟨by have := HSZ6.out; omega⟩
                  clear hs_
                  go_upto_region 20 with fail
                  have k0_ := (blk_cell B13.out 0).trans (rfl : _ = some (.int .i64 k.f0 : Value))
                  have k1_ := (blk_cell B13.out 1).trans (rfl : _ = some (.int .i64 k.f1 : Value))
                  have k2_ := (blk_cell B13.out 2).trans (rfl : _ = some (.slice A3 k.f2.length c3 : Value))
                  have x2_ := (blk_cell B10.out 2).trans (rfl : _ = some (.slice A2 acc.length c2 : Value))
                  have HKM : Aside0 (Kd.M k38 w7 lo (fun j => S ≤ j) k [.int .i64 k.f0, .int .i64 k.f1, .slice A3 k.f2.length c3]) := ⟨k38_mkM w7 lo _ k (Kd.R_lower (Kd.R_mono (Kd.R_bound HZ.out) (fun j hj => hj.2.1)) HSL.out)⟩
                  have HOKP : Aside0 (∀ j, S ≤ j → True ∧ some j ≠ (Value.slice A2 acc.length c2).ownBlock) := ⟨fun j hj => ⟨trivial, fun h => by have := (HBQ.out j h.symm).2; omega⟩⟩
                  clear HS7
                  go_wp2_with ((with_reducible refine gate_builtin (b := .append) (xs := #[.tmp 80, .tmp 82]) rfl ?_); at_builtin; refine Kd.R_append k38 (w0 := w7) lo rfl (.tmp 80) (.tmp 82) 36 38 (.agg #[.int .i64 0, .int .i64 0, .slice none 0 0]) 40 rfl Try.underlying36 infoE rfl (by decide) (by omega) (.slice A2 acc.length c2) acc k [.int .i64 k.f0, .int .i64 k.f1, .slice A3 k.f2.length c3] (fun _ => True) (fun j => S ≤ j) rfl rfl ?aP ?aK (fun _ _ => trivial) ?aO ?aB ?aS ?aL ?_; (case aP => exact HKM.out); (case aK => exact HOKP.out); (case aO => exact HROW.out); (case aB => exact below_any lo w7); (case aS => exact HLO7.out); (case aL => have := HLEN.out; omega); intro v83 w8 ho_ hb_ hg_ hat_; obtain ⟨acc2, HAC⟩ : ∃ y, Aside0 (acc ++ [k] = y) := ⟨_, ⟨rfl⟩⟩; rw [HAC.out] at ho_; obtain ⟨A8, c8, rfl⟩ := Kd.R_slice ho_; have HR8 := Aside0.mk ho_; have HS8 : Aside0 (lo ≤ w8.heap.size) := ⟨Nat.le_trans HLO7.out hg_.size⟩; replace B6 := Aside0.mk (blk_grown B6.out hg_ (fun h => by have := (HBQ.out g6 h.symm).1; have := HLOW.out; omega)); replace HLC : Aside0 (LC w8 bl l1) := ⟨blk_grown HLC.out hg_ (fun h => by have := (HBQ.out bl h.symm).1; have := HLOW.out; omega)⟩; replace B10 := Aside0.mk (blk_grown B10.out hg_ (fun h => by have := (HBQ.out g10 h.symm).1; have := HLOW.out; omega)); replace HG := Aside0.mk (HG.out.grownO hg_ (fun j hj => .inr (.inr (by have := (HBQ.out j hj).1; have := HLOW.out; omega)))); replace HR := Aside0.mk (rdr_row HR.out HROW.out (by have := HLOW.out; omega) hg_); have y2_ := blk_cell B10.out 2; have yf2_ := blk_frozen B10.out 2; clear ho_ hb_ hg_ hat_ k0_ k1_ k2_ x2_ HKM HOKP HROW)
                  have hset := grown_set w8 g10 2 (.slice A8 acc2.length c8)
                  have hne6 : some g6 ≠ some g10 := by have := HN10.out; intro h; injection h with h; omega
                  have hneb : some bl ≠ some g10 := by have := HN10.out; intro h; injection h with h; omega
                  have hrd := rdr_turn HR.out (by have := HN10.out; omega : b ≠ g10) B10.out (by decide) hset
                  have hbx := blk_put B10.out 2 (.slice A8 acc2.length c8) (rfl : _ = (#[.int .i64 n, .int .i64 N, .slice A8 acc2.length c8] : Array Value))
                  replace B6 := Aside0.mk (blk_grown B6.out hset hne6)
                  replace HLC : Aside0 (LC _ bl l1) := ⟨blk_grown HLC.out hset hneb⟩
                  replace HR := Aside0.mk hrd
                  replace B10 := Aside0.mk hbx
                  replace HG := Aside0.mk (HG.out.grown hset (.inr (.inr HG10.out)))
                  have hrow9 := Kd.R_mono (Kd.R_grown (Kd.R_bound HR8.out) hset (fun j hj he => by injection he with he; have := HLOW.out; have := hj.2.1; omega)) (fun _ _ => trivial)
                  have HROW9 : Aside0 (lo ≤ (w8.setCell ⟨g10, 2, none⟩ (.slice A8 acc2.length c8)).heap.size ∧ Kd.R k38 38 (w8.setCell ⟨g10, 2, none⟩ (.slice A8 acc2.length c8)) lo (fun _ => True) (.slice A8 acc2.length c8) acc2 ∧ ∀ x ∈ acc2, wfE x) := ⟨⟨Nat.le_trans HS8.out hset.size, hrow9, fun x hx => by
                    rw [← HAC.out] at hx
                    rcases List.mem_append.1 hx with hx | hx
                    · exact HWA.out x hx
                    · rw [List.mem_singleton.1 hx]; exact HWK.out⟩⟩
                  clear hset hrd hbx hne6 hneb hrow9
                  generalize w8.setCell ⟨g10, 2, none⟩ (.slice A8 acc2.length c8) = w9 at B6 HLC HR B10 HG HROW9 ⊢
                  go_roundw
                  case rel => exact ⟨i + 1, acc2, r, l1, A8, c8, by omega, by go_num, B6, B10, HG, HR, HLC, HROW9, ⟨⟨HL64.out, by have := HLEN.out; rw [← HAC.out, List.length_append, List.length_singleton]; omega, by rw [← HAC.out]; exact HRN.out⟩⟩⟩
                  case measure => simp [intOf]; omega
              · obtain rfl : K = i := by omega
                have h4 : decide ((K : Int) < (K : Int)) = false := by simp
                have HGE : Aside0 (getE (d + 1) xs lf = .inr (⟨n, N, acc⟩, xi, li)) := ⟨by
                  refine get_good H0.out HHD.out ?_
                  rw [HK.out, HRD.out, HST.out.2.2, Nat.sub_self]
                  simp [kidsE, ahead]⟩
                have HWF : Aside0 (wfE ⟨n, N, acc⟩) := ⟨by
                  refine wfE.mk n N acc HI1.out HI2.out (by have := HST.out.2.1; omega) (fun x hx => ?_)
                  exact HROW.out.2.2 x hx⟩
                have HSZR := Aside0.mk HROW.out.1
                have HREZ := Aside0.mk HROW.out.2.1
                clear HROW
                have z0_ := (blk_cell B10.out 0).trans (rfl : _ = some (.int .i64 n : Value))
                have z1_ := (blk_cell B10.out 1).trans (rfl : _ = some (.int .i64 N : Value))
                have z2_ := (blk_cell B10.out 2).trans (rfl : _ = some (.slice A2 acc.length c2 : Value))
                have r0_ := (blk_cell B6.out 0).trans (rfl : _ = some ((.int .i64 0) : Value))
                have r1_ := (blk_cell B6.out 1).trans (rfl : _ = some ((.int .i64 0) : Value))
                have r2_ := (blk_cell B6.out 2).trans (rfl : _ = some ((.slice none 0 0) : Value))
                have rf0_ := blk_frozen B6.out 0
                have rf1_ := blk_frozen B6.out 1
                have rf2_ := blk_frozen B6.out 2
                go_wp2_with fail
                clear r0_ r1_ r2_ rf0_ rf1_ rf2_ z0_ z1_ z2_
                have BZ := blk_put (blk_set (blk_set B6.out 0 (.int .i64 n)) 1 (.int .i64 N)) 2 (.slice A2 acc.length c2) (rfl : _ = (#[.int .i64 n, .int .i64 N, .slice A2 acc.length c2] : Array Value))
                have hg0 := grown_set wr g6 0 (.int .i64 n)
                have hg1 := grown_set (wr.setCell ⟨g6, 0, none⟩ (.int .i64 n)) g6 1 (.int .i64 N)
                have hg2 := grown_set ((wr.setCell ⟨g6, 0, none⟩ (.int .i64 n)).setCell ⟨g6, 1, none⟩ (.int .i64 N)) g6 2 (.slice A2 acc.length c2)
                have hgz : wr.grownBy (((wr.setCell ⟨g6, 0, none⟩ (.int .i64 n)).setCell ⟨g6, 1, none⟩ (.int .i64 N)).setCell ⟨g6, 2, none⟩ (.slice A2 acc.length c2)) (some g6) := ⟨rfl, rfl, rfl, by simp, fun k hk hne => (hg2.block k (by simpa using hk) hne).trans ((hg1.block k (by simpa using hk) hne).trans (hg0.block k hk hne))⟩
                clear hg0 hg1 hg2
                generalize (((wr.setCell ⟨g6, 0, none⟩ (.int .i64 n)).setCell ⟨g6, 1, none⟩ (.int .i64 N)).setCell ⟨g6, 2, none⟩ (.slice A2 acc.length c2)) = wz at BZ hgz ⊢
                have r0_ := (blk_cell BZ 0).trans (rfl : _ = some (.int .i64 n : Value))
                have r1_ := (blk_cell BZ 1).trans (rfl : _ = some (.int .i64 N : Value))
                have r2_ := (blk_cell BZ 2).trans (rfl : _ = some (.slice A2 acc.length c2 : Value))
                have low := HLOW.out
                have n6 := HN6.out
                refine bodyPost_ret (v := .tuple #[.agg #[.int .i64 n, .int .i64 N, .slice A2 acc.length c2], .int .i64 0]) (by simp [results, Try.results51, go_sem, r0_, r1_, r2_]) rfl ?_
                refine GPost.good HGE.out (HG.out.grown hgz (.inr (.inr HG6.out))) (.slice A2 acc.length c2) rfl ?_ HWF.out (rdr_turn HR.out n6.1 B6.out (by decide) hgz) (blk_grown HLC.out hgz (by intro h; injection h with h; omega)) HST.out.1
                exact Kd.R_lower (Kd.R_mono (Kd.R_grown (Kd.R_bound HREZ.out) hgz (fun j hj he => by injection he with he; have := hj.2.1; omega)) (fun _ _ => trivial)) low.2.2.2.2

          · have herb2 : (er2 != 0) = true := by simpa using her2
            have HGE : Aside0 (getE (d + 1) xs lf = .inl er2) := ⟨by
              rw [← HER2.out, ← HR1.out]
              exact get_head H0.out (head_con_err (by rw [HER.out]; exact her) (by rw [HN.out]; exact HN1.out) (by rw [HR1.out, HER2.out]; exact her2))⟩
            have HNZ := Aside0.mk her2
            clear her2
            have r0_ := (blk_cell B6.out 0).trans (rfl : _ = some ((.int .i64 0) : Value))
            have r1_ := (blk_cell B6.out 1).trans (rfl : _ = some ((.int .i64 0) : Value))
            have r2_ := (blk_cell B6.out 2).trans (rfl : _ = some ((.slice none 0 0) : Value))
            have rf0_ := blk_frozen B6.out 0
            have rf1_ := blk_frozen B6.out 1
            have rf2_ := blk_frozen B6.out 2
            go_wp2_with fail
            have BZ := blk_put (blk_set (blk_set B6.out 0 (.int .i64 0)) 1 (.int .i64 0)) 2 (.slice none 0 0) (rfl : _ = (#[.int .i64 0, .int .i64 0, .slice none 0 0] : Array Value))
            have GZ := ((HG.out.grown (grown_set w5 g6 0 (.int .i64 0)) (.inr (.inr HG6.out))).grown (grown_set _ g6 1 (.int .i64 0)) (.inr (.inr HG6.out))).grown (grown_set _ g6 2 (.slice none 0 0)) (.inr (.inr HG6.out))
            clear r0_ r1_ r2_ rf0_ rf1_ rf2_
            generalize (((w5.setCell ⟨g6, 0, none⟩ (.int .i64 0)).setCell ⟨g6, 1, none⟩ (.int .i64 0)).setCell ⟨g6, 2, none⟩ (.slice none 0 0)) = wz at BZ GZ ⊢
            have r0_ := (blk_cell BZ 0).trans (rfl : _ = some ((.int .i64 0) : Value))
            have r1_ := (blk_cell BZ 1).trans (rfl : _ = some ((.int .i64 0) : Value))
            have r2_ := (blk_cell BZ 2).trans (rfl : _ = some ((.slice none 0 0) : Value))
            refine bodyPost_ret (v := .tuple #[.agg #[.int .i64 0, .int .i64 0, .slice none 0 0], .int .i64 er2]) (by simp [results, Try.results51, go_sem, r0_, r1_, r2_]) rfl ?_
            exact GPost.bad (HGE.out) GZ HNZ.out
        · have hn1b : (n == 1) = false := by simpa using hn1
          obtain ⟨r0, HR0⟩ : ∃ r, Aside0 ((rdU xs).2.2 = r) := ⟨_, ⟨rfl⟩⟩
          obtain ⟨N, HNV⟩ : ∃ N : Int, Aside0 (0 = N) := ⟨0, ⟨rfl⟩⟩
          have HHD : Aside0 (headE xs = .inr (n, N, r0)) := ⟨by rw [← HNV.out, ← HR0.out, ← HN.out]; exact head_op (by rw [HER.out]; exact her) (by rw [HN.out]; exact hin) (by rw [HN.out]; exact hn1)⟩
          rw [HR0.out] at HR
          have HI2 : Aside0 (I64 N) := ⟨by rw [← HNV.out]; unfold I64; decide⟩
          rw [HNV.out] at B10
          clear hn1 hin
          go_upto_region 15 with fail
          clear x0_ hn1b
          obtain ⟨K, HK⟩ : ∃ K, Aside0 ((kidsOf n).toNat = K) := ⟨_, ⟨rfl⟩⟩
          have HKI : Aside0 (kidsOf n = (K : Int)) := ⟨by rw [← HK.out]; have := kidsOf_nonneg n; omega⟩
          have hK3 : K ≤ 3 := by have := HKI.out; have := kidsOf_most n; omega
          obtain ⟨R, HRD⟩ : ∃ R, Aside0 (kidsE (getE d) K r0 (lf - 1) = R) := ⟨_, ⟨rfl⟩⟩
          obtain ⟨lo, HLO⟩ : ∃ lo, Aside0 (w5.heap.size = lo) := ⟨_, ⟨rfl⟩⟩
          have HLOW : Aside0 (b < lo ∧ bl < lo ∧ g6 < lo ∧ g10 < lo ∧ w.heap.size ≤ lo) := ⟨by
            have h1 := blk_lt B6.out
            have h2 := blk_lt B10.out
            have h3 := HG.out.size
            have h4 := HOLD.out
            have h5 := HLO.out
            omega⟩
          rw [HKI.out]
          go_wp2_with fail
          go_loopw [65] (fun v65 wr => ∃ (i : Nat) (acc : List E) (xi : List Int) (li : Nat) (A2 : Option Addr) (c2 : Nat), i ≤ K ∧ v65 = .int .i64 (i : Int) ∧ Aside0 (wr.heap[g6]? = some (.cells #[.int .i64 0, .int .i64 0, .slice none 0 0] 38 (0, 0))) ∧ Aside0 (wr.heap[g10]? = some (.cells #[.int .i64 n, .int .i64 N, .slice A2 acc.length c2] 38 (0, 0))) ∧ Aside0 (GK w wr b bl) ∧ Aside0 (Rdr wr base b xi) ∧ Aside0 (LC wr bl li) ∧ Aside0 (lo ≤ wr.heap.size ∧ Kd.R k38 38 wr lo (fun _ => True) (.slice A2 acc.length c2) acc ∧ ∀ x ∈ acc, wfE x) ∧ Aside0 (li ≤ 64 ∧ acc.length = i ∧ R = ahead acc (kidsE (getE d) (K - i) xi li))) (fun v65 _ => K - (intOf v65).toNat)
          case atStart => exact ⟨0, [], r0, lf - 1, none, 0, by omega, rfl, B6, B10, HG, HR, HLC, ⟨⟨by rw [HLO.out]; exact Nat.le_refl _, Kd.R_nil _ _ _ _ _, fun x hx => (List.not_mem_nil hx).elim⟩⟩, ⟨⟨by omega, rfl, by rw [Nat.sub_zero, ahead_nil]; exact HRD.out.symm⟩⟩⟩
          case round =>
            clear B6 B10 HG HR HLC HLO
            obtain ⟨i, acc, xi, li, A2, c2, hi, rfl, B6, B10, HG, HR, HLC, HROW, HST⟩ := hrel
            by_cases hlt : i < K
            · have h4 : decide ((i : Int) < (K : Int)) = true := by simp; omega
              have h4b : decide (i < K) = true := by simp; omega
              have hD1 := hD.2.2
              go_wp2_with fail
              refine (IH.out xi li _ HST.out.1 HR.out HLC.out HNE.out).mono ?_
              rintro e_ w6 ⟨hgk, hp⟩
              clear h4 h4b
              obtain ⟨S, HS⟩ : ∃ S, Aside0 (wr.heap.size = S) := ⟨_, ⟨rfl⟩⟩
              have HSL : Aside0 (lo ≤ S) := ⟨by rw [← HS.out]; exact HROW.out.1⟩
              have low := HLOW.out
              have n6 := HN6.out
              have n10 := HN10.out
              replace B6 := Aside0.mk ((hgk.block g6 (by have := HSL.out; have := HS.out; omega) (by omega) (by omega)).trans B6.out)
              replace B10 := Aside0.mk ((hgk.block g10 (by have := HSL.out; have := HS.out; omega) (by omega) (by omega)).trans B10.out)
              replace HG := Aside0.mk (HG.out.trans hgk)
              have HBQ : Aside0 (∀ j, (Value.slice A2 acc.length c2).ownBlock = some j → lo ≤ j ∧ j < S) := ⟨fun j hj => by have h := (Kd.R_bound HROW.out.2.1).1 j hj; rw [HS.out] at h; exact ⟨h.2.1, h.2.2.1⟩⟩
              have hrow6 := Kd.R_mono (Kd.R_move (Kd.R_bound HROW.out.2.1) (fun k h1 => hgk.block k h1.2.2.1 (by have := h1.2.1; omega) (by have := h1.2.1; omega))) (fun _ _ => trivial)
              replace HROW : Aside0 (lo ≤ w6.heap.size ∧ Kd.R k38 38 w6 lo (fun _ => True) (.slice A2 acc.length c2) acc ∧ ∀ x ∈ acc, wfE x) := ⟨⟨Nat.le_trans HROW.out.1 hgk.size, hrow6, HROW.out.2.2⟩⟩
              clear hrow6
              have HSZ6 : Aside0 (S ≤ w6.heap.size) := ⟨by rw [← HS.out]; exact hgk.size⟩
              rw [HS.out] at hp
              clear hgk HR HLC HS low n6 n10 wr
              cases hg : getE d xi li with
              | inl er2 =>
                rw [hg] at hp
                obtain ⟨rfl, hnz⟩ := hp
                have herb2 : (er2 != 0) = true := by simpa using hnz
                have HGE : Aside0 (getE (d + 1) xs lf = .inl er2) := ⟨by
                  refine get_kids H0.out HHD.out ?_
                  rw [HK.out, HRD.out, HST.out.2.2, show K - i = K - i - 1 + 1 by omega]
                  exact kids_bad hg⟩
                have HNZ := Aside0.mk hnz
                clear hnz hg
                go_upto_region 18 with fail
                have B13 := Aside0.mk (heap_alloc_new w6 (.cells #[.int .i64 0, .int .i64 0, .slice none 0 0] 38 (0, 0)))
                have hb_ := below_alloc (Below.refl w6.heap.size w6) (.cells #[.int .i64 0, .int .i64 0, .slice none 0 0] 38 (0, 0))
                have hs_ : (w6.alloc (.cells #[.int .i64 0, .int .i64 0, .slice none 0 0] 38 (0, 0))).heap.size = w6.heap.size + 1 := by simp
                generalize w6.alloc (.cells #[.int .i64 0, .int .i64 0, .slice none 0 0] 38 (0, 0)) = w7 at B13 hb_ hs_ ⊢
                replace B6 := Aside0.mk (blk_below B6.out hb_)
                replace HG := Aside0.mk (HG.out.below hb_)
                clear hb_
                clear hs_
                have r0_ := (blk_cell B6.out 0).trans (rfl : _ = some ((.int .i64 0) : Value))
                have r1_ := (blk_cell B6.out 1).trans (rfl : _ = some ((.int .i64 0) : Value))
                have r2_ := (blk_cell B6.out 2).trans (rfl : _ = some ((.slice none 0 0) : Value))
                have rf0_ := blk_frozen B6.out 0
                have rf1_ := blk_frozen B6.out 1
                have rf2_ := blk_frozen B6.out 2
                go_wp2_with fail
                have BZ := blk_put (blk_set (blk_set B6.out 0 (.int .i64 0)) 1 (.int .i64 0)) 2 (.slice none 0 0) (rfl : _ = (#[.int .i64 0, .int .i64 0, .slice none 0 0] : Array Value))
                have GZ := ((HG.out.grown (grown_set w7 g6 0 (.int .i64 0)) (.inr (.inr HG6.out))).grown (grown_set _ g6 1 (.int .i64 0)) (.inr (.inr HG6.out))).grown (grown_set _ g6 2 (.slice none 0 0)) (.inr (.inr HG6.out))
                clear r0_ r1_ r2_ rf0_ rf1_ rf2_
                generalize (((w7.setCell ⟨g6, 0, none⟩ (.int .i64 0)).setCell ⟨g6, 1, none⟩ (.int .i64 0)).setCell ⟨g6, 2, none⟩ (.slice none 0 0)) = wz at BZ GZ ⊢
                have r0_ := (blk_cell BZ 0).trans (rfl : _ = some ((.int .i64 0) : Value))
                have r1_ := (blk_cell BZ 1).trans (rfl : _ = some ((.int .i64 0) : Value))
                have r2_ := (blk_cell BZ 2).trans (rfl : _ = some ((.slice none 0 0) : Value))
                refine bodyPost_ret (v := .tuple #[.agg #[.int .i64 0, .int .i64 0, .slice none 0 0], .int .i64 er2]) (by simp [results, Try.results51, go_sem, r0_, r1_, r2_]) rfl ?_
                exact GPost.bad (HGE.out) GZ HNZ.out
              | inr q =>
                obtain ⟨k, r, l1⟩ := q
                rw [hg] at hp
                obtain ⟨v3, rfl, hz, hwk, hr6, hl6, hl64⟩ := hp
                obtain ⟨A3, c3, rfl⟩ := Kd.R_slice hz
                have HZ := Aside0.mk hz
                have HWK := Aside0.mk hwk
                have HR := Aside0.mk hr6
                have HLC := Aside0.mk hl6
                have HL64 := Aside0.mk hl64
                have HRN : Aside0 (R = ahead (acc ++ [k]) (kidsE (getE d) (K - (i + 1)) r l1)) := ⟨by
                  rw [HST.out.2.2, show K - i = K - (i + 1) + 1 by omega]
                  exact kids_good hg⟩
                have HLEN := Aside0.mk HST.out.2.1
                clear hz hwk hr6 hl6 hl64 hg HST
                go_upto_region 18 with fail
                have B13 := Aside0.mk (heap_alloc_new w6 (.cells #[.int .i64 k.f0, .int .i64 k.f1, .slice A3 k.f2.length c3] 38 (0, 0)))
                have hb_ := below_alloc (Below.refl w6.heap.size w6) (.cells #[.int .i64 k.f0, .int .i64 k.f1, .slice A3 k.f2.length c3] 38 (0, 0))
                have hs_ : (w6.alloc (.cells #[.int .i64 k.f0, .int .i64 k.f1, .slice A3 k.f2.length c3] 38 (0, 0))).heap.size = w6.heap.size + 1 := by simp
                generalize w6.alloc (.cells #[.int .i64 k.f0, .int .i64 k.f1, .slice A3 k.f2.length c3] 38 (0, 0)) = w7 at B13 hb_ hs_ ⊢
                replace B6 := Aside0.mk (blk_below B6.out hb_)
                replace B10 := Aside0.mk (blk_below B10.out hb_)
                replace HG := Aside0.mk (HG.out.below hb_)
                replace HR := Aside0.mk (HR.out.below hb_)
                replace HZ := Aside0.mk (Kd.R_below HZ.out hb_)
                replace HLC : Aside0 (LC w7 bl l1) := ⟨blk_below HLC.out hb_⟩
                have HWA := Aside0.mk HROW.out.2.2
                have hrow7 := Kd.R_below HROW.out.2.1 hb_
                have HLO7 : Aside0 (lo ≤ w7.heap.size) := ⟨Nat.le_trans HROW.out.1 hb_.size⟩
                replace HROW := Aside0.mk hrow7
                clear hb_ hrow7
                obtain ⟨g13, HG13⟩ : ∃ g, Aside0 (w6.heap.size = g) := ⟨_, ⟨rfl⟩⟩
                rw [HG13.out] at B13 ⊢
                have HS7 : Aside0 (S ≤ w7.heap.size) := ⟨by have := HSZ6.out; omega⟩
                clear hs_
                go_upto_region 20 with fail
                have k0_ := (blk_cell B13.out 0).trans (rfl : _ = some (.int .i64 k.f0 : Value))
                have k1_ := (blk_cell B13.out 1).trans (rfl : _ = some (.int .i64 k.f1 : Value))
                have k2_ := (blk_cell B13.out 2).trans (rfl : _ = some (.slice A3 k.f2.length c3 : Value))
                have x2_ := (blk_cell B10.out 2).trans (rfl : _ = some (.slice A2 acc.length c2 : Value))
                have HKM : Aside0 (Kd.M k38 w7 lo (fun j => S ≤ j) k [.int .i64 k.f0, .int .i64 k.f1, .slice A3 k.f2.length c3]) := ⟨k38_mkM w7 lo _ k (Kd.R_lower (Kd.R_mono (Kd.R_bound HZ.out) (fun j hj => hj.2.1)) HSL.out)⟩
                have HOKP : Aside0 (∀ j, S ≤ j → True ∧ some j ≠ (Value.slice A2 acc.length c2).ownBlock) := ⟨fun j hj => ⟨trivial, fun h => by have := (HBQ.out j h.symm).2; omega⟩⟩
                clear HS7
                go_wp2_with ((with_reducible refine gate_builtin (b := .append) (xs := #[.tmp 80, .tmp 82]) rfl ?_); at_builtin; refine Kd.R_append k38 (w0 := w7) lo rfl (.tmp 80) (.tmp 82) 36 38 (.agg #[.int .i64 0, .int .i64 0, .slice none 0 0]) 40 rfl Try.underlying36 infoE rfl (by decide) (by omega) (.slice A2 acc.length c2) acc k [.int .i64 k.f0, .int .i64 k.f1, .slice A3 k.f2.length c3] (fun _ => True) (fun j => S ≤ j) rfl rfl ?aP ?aK (fun _ _ => trivial) ?aO ?aB ?aS ?aL ?_; (case aP => exact HKM.out); (case aK => exact HOKP.out); (case aO => exact HROW.out); (case aB => exact below_any lo w7); (case aS => exact HLO7.out); (case aL => have := HLEN.out; omega); intro v83 w8 ho_ hb_ hg_ hat_; obtain ⟨acc2, HAC⟩ : ∃ y, Aside0 (acc ++ [k] = y) := ⟨_, ⟨rfl⟩⟩; rw [HAC.out] at ho_; obtain ⟨A8, c8, rfl⟩ := Kd.R_slice ho_; have HR8 := Aside0.mk ho_; have HS8 : Aside0 (lo ≤ w8.heap.size) := ⟨Nat.le_trans HLO7.out hg_.size⟩; replace B6 := Aside0.mk (blk_grown B6.out hg_ (fun h => by have := (HBQ.out g6 h.symm).1; have := HLOW.out; omega)); replace HLC : Aside0 (LC w8 bl l1) := ⟨blk_grown HLC.out hg_ (fun h => by have := (HBQ.out bl h.symm).1; have := HLOW.out; omega)⟩; replace B10 := Aside0.mk (blk_grown B10.out hg_ (fun h => by have := (HBQ.out g10 h.symm).1; have := HLOW.out; omega)); replace HG := Aside0.mk (HG.out.grownO hg_ (fun j hj => .inr (.inr (by have := (HBQ.out j hj).1; have := HLOW.out; omega)))); replace HR := Aside0.mk (rdr_row HR.out HROW.out (by have := HLOW.out; omega) hg_); have y2_ := blk_cell B10.out 2; have yf2_ := blk_frozen B10.out 2; clear ho_ hb_ hg_ hat_ k0_ k1_ k2_ x2_ HKM HOKP HROW)
                have hset := grown_set w8 g10 2 (.slice A8 acc2.length c8)
                have hne6 : some g6 ≠ some g10 := by have := HN10.out; intro h; injection h with h; omega
                have hneb : some bl ≠ some g10 := by have := HN10.out; intro h; injection h with h; omega
                have hrd := rdr_turn HR.out (by have := HN10.out; omega : b ≠ g10) B10.out (by decide) hset
                have hbx := blk_put B10.out 2 (.slice A8 acc2.length c8) (rfl : _ = (#[.int .i64 n, .int .i64 N, .slice A8 acc2.length c8] : Array Value))
                replace B6 := Aside0.mk (blk_grown B6.out hset hne6)
                replace HLC : Aside0 (LC _ bl l1) := ⟨blk_grown HLC.out hset hneb⟩
                replace HR := Aside0.mk hrd
                replace B10 := Aside0.mk hbx
                replace HG := Aside0.mk (HG.out.grown hset (.inr (.inr HG10.out)))
                have hrow9 := Kd.R_mono (Kd.R_grown (Kd.R_bound HR8.out) hset (fun j hj he => by injection he with he; have := HLOW.out; have := hj.2.1; omega)) (fun _ _ => trivial)
                have HROW9 : Aside0 (lo ≤ (w8.setCell ⟨g10, 2, none⟩ (.slice A8 acc2.length c8)).heap.size ∧ Kd.R k38 38 (w8.setCell ⟨g10, 2, none⟩ (.slice A8 acc2.length c8)) lo (fun _ => True) (.slice A8 acc2.length c8) acc2 ∧ ∀ x ∈ acc2, wfE x) := ⟨⟨Nat.le_trans HS8.out hset.size, hrow9, fun x hx => by
                  rw [← HAC.out] at hx
                  rcases List.mem_append.1 hx with hx | hx
                  · exact HWA.out x hx
                  · rw [List.mem_singleton.1 hx]; exact HWK.out⟩⟩
                clear hset hrd hbx hne6 hneb hrow9
                generalize w8.setCell ⟨g10, 2, none⟩ (.slice A8 acc2.length c8) = w9 at B6 HLC HR B10 HG HROW9 ⊢
                go_roundw
                case rel => exact ⟨i + 1, acc2, r, l1, A8, c8, by omega, by go_num, B6, B10, HG, HR, HLC, HROW9, ⟨⟨HL64.out, by have := HLEN.out; rw [← HAC.out, List.length_append, List.length_singleton]; omega, by rw [← HAC.out]; exact HRN.out⟩⟩⟩
                case measure => simp [intOf]; omega
            · obtain rfl : K = i := by omega
              have h4 : decide ((K : Int) < (K : Int)) = false := by simp
              have HGE : Aside0 (getE (d + 1) xs lf = .inr (⟨n, N, acc⟩, xi, li)) := ⟨by
                refine get_good H0.out HHD.out ?_
                rw [HK.out, HRD.out, HST.out.2.2, Nat.sub_self]
                simp [kidsE, ahead]⟩
              have HWF : Aside0 (wfE ⟨n, N, acc⟩) := ⟨by
                refine wfE.mk n N acc HI1.out HI2.out (by have := HST.out.2.1; omega) (fun x hx => ?_)
                exact HROW.out.2.2 x hx⟩
              have HSZR := Aside0.mk HROW.out.1
              have HREZ := Aside0.mk HROW.out.2.1
              clear HROW
              have z0_ := (blk_cell B10.out 0).trans (rfl : _ = some (.int .i64 n : Value))
              have z1_ := (blk_cell B10.out 1).trans (rfl : _ = some (.int .i64 N : Value))
              have z2_ := (blk_cell B10.out 2).trans (rfl : _ = some (.slice A2 acc.length c2 : Value))
              have r0_ := (blk_cell B6.out 0).trans (rfl : _ = some ((.int .i64 0) : Value))
              have r1_ := (blk_cell B6.out 1).trans (rfl : _ = some ((.int .i64 0) : Value))
              have r2_ := (blk_cell B6.out 2).trans (rfl : _ = some ((.slice none 0 0) : Value))
              have rf0_ := blk_frozen B6.out 0
              have rf1_ := blk_frozen B6.out 1
              have rf2_ := blk_frozen B6.out 2
              go_wp2_with fail
              clear r0_ r1_ r2_ rf0_ rf1_ rf2_ z0_ z1_ z2_
              have BZ := blk_put (blk_set (blk_set B6.out 0 (.int .i64 n)) 1 (.int .i64 N)) 2 (.slice A2 acc.length c2) (rfl : _ = (#[.int .i64 n, .int .i64 N, .slice A2 acc.length c2] : Array Value))
              have hg0 := grown_set wr g6 0 (.int .i64 n)
              have hg1 := grown_set (wr.setCell ⟨g6, 0, none⟩ (.int .i64 n)) g6 1 (.int .i64 N)
              have hg2 := grown_set ((wr.setCell ⟨g6, 0, none⟩ (.int .i64 n)).setCell ⟨g6, 1, none⟩ (.int .i64 N)) g6 2 (.slice A2 acc.length c2)
              have hgz : wr.grownBy (((wr.setCell ⟨g6, 0, none⟩ (.int .i64 n)).setCell ⟨g6, 1, none⟩ (.int .i64 N)).setCell ⟨g6, 2, none⟩ (.slice A2 acc.length c2)) (some g6) := ⟨rfl, rfl, rfl, by simp, fun k hk hne => (hg2.block k (by simpa using hk) hne).trans ((hg1.block k (by simpa using hk) hne).trans (hg0.block k hk hne))⟩
              clear hg0 hg1 hg2
              generalize (((wr.setCell ⟨g6, 0, none⟩ (.int .i64 n)).setCell ⟨g6, 1, none⟩ (.int .i64 N)).setCell ⟨g6, 2, none⟩ (.slice A2 acc.length c2)) = wz at BZ hgz ⊢
              have r0_ := (blk_cell BZ 0).trans (rfl : _ = some (.int .i64 n : Value))
              have r1_ := (blk_cell BZ 1).trans (rfl : _ = some (.int .i64 N : Value))
              have r2_ := (blk_cell BZ 2).trans (rfl : _ = some (.slice A2 acc.length c2 : Value))
              have low := HLOW.out
              have n6 := HN6.out
              refine bodyPost_ret (v := .tuple #[.agg #[.int .i64 n, .int .i64 N, .slice A2 acc.length c2], .int .i64 0]) (by simp [results, Try.results51, go_sem, r0_, r1_, r2_]) rfl ?_
              refine GPost.good HGE.out (HG.out.grown hgz (.inr (.inr HG6.out))) (.slice A2 acc.length c2) rfl ?_ HWF.out (rdr_turn HR.out n6.1 B6.out (by decide) hgz) (blk_grown HLC.out hgz (by intro h; injection h with h; omega)) HST.out.1
              exact Kd.R_lower (Kd.R_mono (Kd.R_grown (Kd.R_bound HREZ.out) hgz (fun j hj he => by injection he with he; have := hj.2.1; omega)) (fun _ _ => trivial)) low.2.2.2.2

      · have hrg := HRG.out
        have HGE : Aside0 (getE (d + 1) xs lf = .inl 5) := ⟨get_head H0.out (head_out (by rw [HER.out]; exact her) (by rw [HN.out]; exact hin))⟩
        obtain ⟨m, hm⟩ : ∃ m, (if 1000 < n then (1000 : Int) else n) = m := ⟨_, rfl⟩
        have hmr : 0 ≤ m ∧ m ≤ 1000 ∧ ¬ (1 ≤ m ∧ m ≤ 16) := by split at hm <;> omega
        have hw64 : wrap64 m = m := by unfold wrap64; omega
        have HMR := Aside0.mk hmr.2.2
        clear hin
        go_upto_region 8 with fail
        have B10 := Aside0.mk (heap_alloc_new w3 (.cells #[.int .i64 m, .int .i64 0, .slice none 0 0] 38 (0, 0)))
        have hb_ := below_alloc (Below.refl w3.heap.size w3) (.cells #[.int .i64 m, .int .i64 0, .slice none 0 0] 38 (0, 0))
        have hs_ : (w3.alloc (.cells #[.int .i64 m, .int .i64 0, .slice none 0 0] 38 (0, 0))).heap.size = w3.heap.size + 1 := by simp
        generalize w3.alloc (.cells #[.int .i64 m, .int .i64 0, .slice none 0 0] 38 (0, 0)) = w4 at B10 hb_ hs_ ⊢
        replace B6 := Aside0.mk (blk_below B6.out hb_)
        replace HG := Aside0.mk (HG.out.below hb_)
        clear hb_
        clear hs_ hm hw64 hmr
        obtain ⟨g10, HG10'⟩ : ∃ g, Aside0 (w3.heap.size = g) := ⟨_, ⟨rfl⟩⟩
        rw [HG10'.out] at B10 ⊢
        have x0_ := (blk_cell B10.out 0).trans (rfl : _ = some (.int .i64 m : Value))
        go_wp2_with fail
        refine (expr_kids.calls m 0 false _ (by unfold expr_kids.f; rw [if_neg HMR.out])).mono ?_
        rintro e_ w5 ⟨rfl, hb_⟩
        clear x0_
        replace B6 := Aside0.mk (blk_below B6.out hb_)
        replace HG := Aside0.mk (HG.out.below hb_)
        clear hb_
        have r0_ := (blk_cell B6.out 0).trans (rfl : _ = some ((.int .i64 0) : Value))
        have r1_ := (blk_cell B6.out 1).trans (rfl : _ = some ((.int .i64 0) : Value))
        have r2_ := (blk_cell B6.out 2).trans (rfl : _ = some ((.slice none 0 0) : Value))
        have rf0_ := blk_frozen B6.out 0
        have rf1_ := blk_frozen B6.out 1
        have rf2_ := blk_frozen B6.out 2
        go_wp2_with fail
        have BZ := blk_put (blk_set (blk_set B6.out 0 (.int .i64 0)) 1 (.int .i64 0)) 2 (.slice none 0 0) (rfl : _ = (#[.int .i64 0, .int .i64 0, .slice none 0 0] : Array Value))
        have GZ := ((HG.out.grown (grown_set w5 g6 0 (.int .i64 0)) (.inr (.inr HG6.out))).grown (grown_set _ g6 1 (.int .i64 0)) (.inr (.inr HG6.out))).grown (grown_set _ g6 2 (.slice none 0 0)) (.inr (.inr HG6.out))
        clear r0_ r1_ r2_ rf0_ rf1_ rf2_
        generalize (((w5.setCell ⟨g6, 0, none⟩ (.int .i64 0)).setCell ⟨g6, 1, none⟩ (.int .i64 0)).setCell ⟨g6, 2, none⟩ (.slice none 0 0)) = wz at BZ GZ ⊢
        have r0_ := (blk_cell BZ 0).trans (rfl : _ = some ((.int .i64 0) : Value))
        have r1_ := (blk_cell BZ 1).trans (rfl : _ = some ((.int .i64 0) : Value))
        have r2_ := (blk_cell BZ 2).trans (rfl : _ = some ((.slice none 0 0) : Value))
        refine bodyPost_ret (v := .tuple #[.agg #[.int .i64 0, .int .i64 0, .slice none 0 0], .int .i64 5]) (by simp [results, Try.results51, go_sem, r0_, r1_, r2_]) rfl ?_
        exact GPost.bad (HGE.out) GZ (by decide)
    · have herb : (er != 0) = true := by simpa using her
      have HGE : Aside0 (getE (d + 1) xs lf = .inl er) := ⟨by rw [← HER.out]; exact get_head H0.out (head_err (by rw [HER.out]; exact her))⟩
      have HNZ := Aside0.mk her
      clear her
      have r0_ := (blk_cell B6.out 0).trans (rfl : _ = some ((.int .i64 0) : Value))
      have r1_ := (blk_cell B6.out 1).trans (rfl : _ = some ((.int .i64 0) : Value))
      have r2_ := (blk_cell B6.out 2).trans (rfl : _ = some ((.slice none 0 0) : Value))
      have rf0_ := blk_frozen B6.out 0
      have rf1_ := blk_frozen B6.out 1
      have rf2_ := blk_frozen B6.out 2
      go_wp2_with fail
      have BZ := blk_put (blk_set (blk_set B6.out 0 (.int .i64 0)) 1 (.int .i64 0)) 2 (.slice none 0 0) (rfl : _ = (#[.int .i64 0, .int .i64 0, .slice none 0 0] : Array Value))
      have GZ := ((HG.out.grown (grown_set w3 g6 0 (.int .i64 0)) (.inr (.inr HG6.out))).grown (grown_set _ g6 1 (.int .i64 0)) (.inr (.inr HG6.out))).grown (grown_set _ g6 2 (.slice none 0 0)) (.inr (.inr HG6.out))
      clear r0_ r1_ r2_ rf0_ rf1_ rf2_
      generalize (((w3.setCell ⟨g6, 0, none⟩ (.int .i64 0)).setCell ⟨g6, 1, none⟩ (.int .i64 0)).setCell ⟨g6, 2, none⟩ (.slice none 0 0)) = wz at BZ GZ ⊢
      have r0_ := (blk_cell BZ 0).trans (rfl : _ = some ((.int .i64 0) : Value))
      have r1_ := (blk_cell BZ 1).trans (rfl : _ = some ((.int .i64 0) : Value))
      have r2_ := (blk_cell BZ 2).trans (rfl : _ = some ((.slice none 0 0) : Value))
      refine bodyPost_ret (v := .tuple #[.agg #[.int .i64 0, .int .i64 0, .slice none 0 0], .int .i64 er]) (by simp [results, Try.results51, go_sem, r0_, r1_, r2_]) rfl ?_
      exact GPost.bad (HGE.out) GZ HNZ.out

end Go.Proofs.Yteanncfmaomhaaa.Ex
