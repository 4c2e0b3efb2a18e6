/- The document's Chain, in the form of the printer's own contracts. -/
import Derived.Test.YthkilejcddgodaaFlCh2
import Derived.Test.YthkilejcddgodaaFlPure
import Derived.Test.YthkilejcddgodaaExCom
namespace Go.Proofs.Ythkilejcddgodaa.Ex
open Go Go.RowKit Go.Proofs.YthkilejcddgodaaW.PrintWords Go.Proofs.YthkilejcddgodaaW.PrintLast Go.Proofs.YthkilejcddgodaaW.PrintMore
attribute [local go_sem] max2_int min2_int max_two min_two max_three min_three max_four min_four
set_option linter.unusedVariables false
set_option linter.unusedSimpArgs false
theorem evalOf_I64 {ky vl tm ac : Int} (h1 : I64 ky) (h2 : I64 vl) (h3 : I64 tm) (h4 : I64 ac) (e : E) (hw : wfE e) : I64 (evalOf e ky vl tm ac).1 := by
  unfold evalOf
  cases h : mayB e with
  | false => simp only [Bool.false_eq_true, if_false]; unfold I64; omega
  | true =>
    simp only [if_true]
    cases hv : valOf 16 ky vl tm ac e with
    | none => simp only; unfold I64; omega
    | some n => exact valOf_I64 h1 h2 h3 h4 16 e n (okB_fits _ _ (mayB_ok h)) hw hv
theorem apOf_recOk (kind : Int) (e : E) (r : Rc) (hw : wfE e) (hr : recOk r) : ∀ x ∈ (apOf kind e r).1, recOk x := by
  intro x hx
  unfold apOf at hx
  by_cases h1 : kind = 1 ∨ kind = 10
  · rw [if_pos h1] at hx
    simp only [List.mem_singleton] at hx
    exact hx ▸ hr
  rw [if_neg h1] at hx
  by_cases h2 : 2 ≤ kind ∧ kind ≤ 5
  · rw [if_pos h2] at hx
    by_cases hq : (evalOf e r.f0 r.f1 r.f2 0).2 = 0
    · rw [if_pos hq] at hx
      have hn : I64 (evalOf e r.f0 r.f1 r.f2 0).1 := evalOf_I64 hr.1 hr.2.1 hr.2.2 (by unfold I64; omega) e hw
      generalize (evalOf e r.f0 r.f1 r.f2 0).1 = n at hx hn
      simp only [outOf] at hx
      by_cases k2 : kind = 2
      · rw [if_pos k2] at hx; simp only [List.mem_singleton] at hx; subst hx; exact ⟨hr.1, hn, hr.2.2⟩
      rw [if_neg k2] at hx
      by_cases k5 : kind = 5
      · rw [if_pos k5] at hx; simp only [List.mem_singleton] at hx; subst hx; exact ⟨hn, hr.2.1, hr.2.2⟩
      rw [if_neg k5] at hx
      by_cases k3 : kind = 3
      · rw [if_pos k3] at hx
        by_cases hz : n = 0
        · rw [if_pos hz] at hx; cases hx
        · rw [if_neg hz] at hx; simp only [List.mem_singleton] at hx; exact hx ▸ hr
      rw [if_neg k3] at hx
      unfold flatOf at hx
      obtain ⟨j, _, rfl⟩ := List.mem_map.1 hx
      exact ⟨hr.1, wrap_I64 _, hr.2.2⟩
    · rw [if_neg hq] at hx; cases hx
  · rw [if_neg h2] at hx; cases hx
theorem refApply_ok (v : Vx) (r : Rc) (hw : wfE v.f2) (hr : recOk r) (A1 : Option Addr) (c1 : Nat) (A4 : Option Addr) (c4 : Nat) (w : World) (l1 : v.f1.length ≤ c1) (r1 : Kd.C (Kd.int .i64) w A1 v.f1.length v.f1) (l4 : v.f2.f2.length ≤ c4) (r4 : Kd.C k25 w A4 v.f2.f2.length v.f2.f2) (xs : List Rc) (er : Int) (hap : apOf v.f0 v.f2 r = (xs, er)) :
    Calls Try.prog 12 #[.agg #[.int .i64 v.f0, .slice A1 v.f1.length c1, .int .i64 v.f2.f0, .int .i64 v.f2.f1, .slice A4 v.f2.f2.length c4, .int .i64 v.f3], .agg #[.int .i64 r.f0, .int .i64 r.f1, .int .i64 r.f2]] w fun e w' => ∃ v0_ : Value, e = .returned (.tuple #[v0_, .int .i64 er]) ∧ Kd.R k29 29 w' w.heap.size (fun _ => True) v0_ xs ∧ Below w.heap.size w w' := by
  obtain ⟨k, hk⟩ := Ev.rounds (refApply_ev v.f0 v.f1 v.f2 v.f3 r hw hr)
  rw [hap] at hk
  exact tidemillref17_Apply.calls k _ A1 c1 _ _ _ A4 c4 _ _ _ _ _ _ _ w r1 l1 r4 l4 hk
/-- The errors of a chain. -/
theorem goL_err (f : Rc → CS → Bool × CS) (hf : ∀ x s, s.err = 0 → if (f x s).1 = true then (f x s).2.err = 0 else (f x s).2.err ≠ 0) : ∀ (xs : List Rc) (s : CS), s.err = 0 → if (goL f xs s).1 = true then (goL f xs s).2.err = 0 else (goL f xs s).2.err ≠ 0 := by
  intro xs
  induction xs with
  | nil => intro s h; exact h
  | cons x xs ih =>
    intro s h
    have h0 := hf x s h
    rw [goL]
    by_cases h1 : (f x s).1 = true
    · rw [if_pos h1] at h0
      rw [if_pos h1]
      exact ih _ h0
    · rw [if_neg h1] at h0
      rw [if_neg h1]
      exact h0
theorem chGo_err : ∀ (vs : List Vx) (i : Nat) (r : Rc) (s : CS), s.err = 0 → if (chGo vs i r s).1 = true then (chGo vs i r s).2.err = 0 else (chGo vs i r s).2.err ≠ 0 := by
  intro vs
  induction vs with
  | nil => intro i r s h; exact h
  | cons v vs ih =>
    intro i r s h
    rw [chGo]
    by_cases h1 : errOf v i r s ≠ 0
    · rw [if_pos h1]; exact h1
    · rw [if_neg h1]
      exact goL_err (chGo vs (i + 1)) (fun x s hs => ih (i + 1) x s hs) _ _ h
/-- What the document's walk has. -/
structure TP where
  w0 : World
  A0 : Option Addr
  c0 : Nat
  L : List Vx
  bm : Nat
structure TI (p : TP) (w : World) (s : CS) (vo : Value) : Prop where
  hb : Below p.w0.heap.size p.w0 w
  hm : w.heap[p.bm]? = some (.cells (nums .i64 s.many).toArray 3 (0, 0))
  hv : Kd.R k29 29 w p.w0.heap.size (fun _ => True) vo s.out
  hl : s.many.length = p.L.length
  lm : p.w0.heap.size ≤ p.bm
def ST (p : TP) (vo : Value) (k : Nat) : Prop := k = p.bm ∨ some k = vo.ownBlock
theorem ST.mono {p : TP} {vo v : Value} {n : Nat} (h : Hat vo v n) (k : Nat) (hk : ST p v k) : ST p vo k ∨ n ≤ k := by
  rcases hk with h1 | h1
  · exact .inl (.inl h1)
  · rcases h with h | ⟨b, h, hb⟩
    · exact .inl (.inr (h1.trans h))
    · rw [h] at h1; injection h1 with h1; exact .inr (by omega)
def LowT (p : TP) (vo : Value) (B : Nat) : Prop := p.bm < B ∧ ∀ k, vo.ownBlock = some k → k < B
theorem TI.low {p : TP} {w : World} {s : CS} {vo : Value} (h : TI p w s vo) : LowT p vo w.heap.size := ⟨blk_lt h.hm, Kd.R_lt h.hv⟩
theorem LowT.apart {p : TP} {vo v : Value} {B n : Nat} (h : LowT p vo B) (ha : Hat vo v n) (k : Nat) (hk : B ≤ k ∧ k < n) : ¬ ST p v k := by
  obtain ⟨a1, a5⟩ := h
  rintro (h1 | h1)
  · omega
  · rcases ha with ha | ⟨b, ha, hb⟩
    · have := a5 k (ha ▸ h1.symm); omega
    · rw [ha] at h1; injection h1 with h1; omega
theorem TI.below {p : TP} {w w1 : World} {s : CS} {vo : Value} (h : TI p w s vo) (hb : Below w.heap.size w w1) : TI p w1 s vo :=
  ⟨below_step h.hb hb, blk_below h.hm hb, Kd.R_below h.hv hb, h.hl, h.lm⟩
theorem TI.count {p : TP} {w : World} {s : CS} {vo : Value} (h : TI p w s vo) (i : Nat) (m : Int) : TI p (w.setCell ⟨p.bm, i, none⟩ (.int .i64 m)) ⟨s.out, s.many.set i m, s.at_, s.err⟩ vo :=
  ⟨below_set h.hb h.lm, blk_put h.hm i _ (nums_set _ _ _ _), Kd.R_set h.hv h.hm (by decide) i _, by simpa using h.hl, h.lm⟩
theorem TI.push {p : TP} {w w1 : World} {s : CS} {vo v : Value} {r : Rc} (h : TI p w s vo) (ho : Kd.R k29 29 w1 p.w0.heap.size (fun _ => True) v (s.out ++ [r])) (hb : Below p.w0.heap.size p.w0 w1) (hg : w.grownBy w1 vo.ownBlock) :
    TI p w1 ⟨s.out ++ [r], s.many, s.at_, s.err⟩ v :=
  ⟨hb, blk_grown h.hm hg (Kd.R_ne h.hv h.hm (by decide)), ho, h.hl, h.lm⟩
/-- A box of the call's own, of a walk. -/
structure WB (w : World) (g : Nat) (vo : Value) (bm n : Nat) (a e : Int) : Prop where
  b : w.heap[g]? = some (.cells #[vo, .slice (some ⟨bm, 0, none⟩) n n, .int .i64 a, .int .i64 e] 59 (0, 0))
theorem WB.below {w w1 : World} {g : Nat} {vo : Value} {bm n : Nat} {a e : Int} (h : WB w g vo bm n a e) (hb : Below w.heap.size w w1) : WB w1 g vo bm n a e := ⟨blk_below h.b hb⟩
theorem WB.cells {w : World} {g : Nat} {vo : Value} {bm n : Nat} {a e : Int} (h : WB w g vo bm n a e) : w.cell? ⟨g, 0, none⟩ = some vo ∧ w.cell? ⟨g, 1, none⟩ = some (.slice (some ⟨bm, 0, none⟩) n n) ∧ w.cell? ⟨g, 2, none⟩ = some (.int .i64 a) ∧ w.cell? ⟨g, 3, none⟩ = some (.int .i64 e) :=
  ⟨(blk_cell h.b 0).trans rfl, (blk_cell h.b 1).trans rfl, (blk_cell h.b 2).trans rfl, (blk_cell h.b 3).trans rfl⟩
theorem WB.ice {w : World} {g : Nat} {vo : Value} {bm n : Nat} {a e : Int} (h : WB w g vo bm n a e) : w.frozen? ⟨g, 0, none⟩ = false ∧ w.frozen? ⟨g, 1, none⟩ = false ∧ w.frozen? ⟨g, 2, none⟩ = false ∧ w.frozen? ⟨g, 3, none⟩ = false :=
  ⟨blk_frozen h.b 0, blk_frozen h.b 1, blk_frozen h.b 2, blk_frozen h.b 3⟩
theorem TI.other {p : TP} {w : World} {s : CS} {vo : Value} {g : Nat} {cs : Array Value} (h : TI p w s vo) (hg : w.heap[g]? = some (.cells cs 59 (0, 0))) (hl : p.w0.heap.size ≤ g) (j : Nat) (v : Value) : TI p (w.setCell ⟨g, j, none⟩ v) s vo :=
  ⟨below_set h.hb hl, blk_far h.hm (p := ⟨g, j, none⟩) (blk_ne h.hm hg (by decide)) _, Kd.R_set h.hv hg (by decide) j _, h.hl, h.lm⟩
theorem TI.mark {p : TP} {w : World} {s : CS} {vo : Value} (h : TI p w s vo) (a e : Int) : TI p w ⟨s.out, s.many, a, e⟩ vo := ⟨h.hb, h.hm, h.hv, h.hl, h.lm⟩
/-- A walk that is handed back. -/
theorem TI.ret {p : TP} {w : World} {s : CS} {vo : Value} {g : Nat} {c0 c1 c2 c3 : Value} (h : TI p w s vo) (hg : w.heap[g]? = some (.cells #[c0, c1, c2, c3] 59 (0, 0))) (hl : p.w0.heap.size ≤ g) (v0 v1 v2 v3 : Value) {w9 : World} (e : (((w.setCell ⟨g, 0, none⟩ v0).setCell ⟨g, 1, none⟩ v1).setCell ⟨g, 2, none⟩ v2).setCell ⟨g, 3, none⟩ v3 = w9) :
    TI p w9 s vo ∧ w9.heap[g]? = some (.cells #[v0, v1, v2, v3] 59 (0, 0)) := by
  subst e
  have b0 : (w.setCell ⟨g, 0, none⟩ v0).heap[g]? = some (.cells #[v0, c1, c2, c3] 59 (0, 0)) := blk_put hg 0 v0 rfl
  have b1 : ((w.setCell ⟨g, 0, none⟩ v0).setCell ⟨g, 1, none⟩ v1).heap[g]? = some (.cells #[v0, v1, c2, c3] 59 (0, 0)) := blk_put b0 1 v1 rfl
  have b2 : (((w.setCell ⟨g, 0, none⟩ v0).setCell ⟨g, 1, none⟩ v1).setCell ⟨g, 2, none⟩ v2).heap[g]? = some (.cells #[v0, v1, v2, c3] 59 (0, 0)) := blk_put b1 2 v2 rfl
  have b3 : ((((w.setCell ⟨g, 0, none⟩ v0).setCell ⟨g, 1, none⟩ v1).setCell ⟨g, 2, none⟩ v2).setCell ⟨g, 3, none⟩ v3).heap[g]? = some (.cells #[v0, v1, v2, v3] 59 (0, 0)) := blk_put b2 3 v3 rfl
  exact ⟨(((h.other hg hl 0 v0).other b0 hl 1 v1).other b1 hl 2 v2).other b2 hl 3 v3, b3⟩
theorem Kept.four {w w1 w9 : World} {S : Nat → Prop} {g : Nat} (h : Kept w w1 S) (hl : w.heap.size ≤ g) (v0 v1 v2 v3 : Value) (e : (((w1.setCell ⟨g, 0, none⟩ v0).setCell ⟨g, 1, none⟩ v1).setCell ⟨g, 2, none⟩ v2).setCell ⟨g, 3, none⟩ v3 = w9) : Kept w w9 S := by
  subst e
  exact (((h.setCell (p := ⟨g, 0, none⟩) (.inr hl) v0).setCell (p := ⟨g, 1, none⟩) (.inr hl) v1).setCell (p := ⟨g, 2, none⟩) (.inr hl) v2).setCell (p := ⟨g, 3, none⟩) (.inr hl) v3
theorem R_four {w w9 : World} {base g g8 : Nat} {ok : Nat → Prop} {v : Value} {xs : List Rc} {c0 c1 c2 c3 : Value} {cs : Array Value} (h : Kd.R k29 29 w base ok v xs) (hg : w.heap[g]? = some (.cells #[c0, c1, c2, c3] 59 (0, 0))) (h8 : w.heap[g8]? = some (.cells cs 59 (0, 0))) (hne : g8 ≠ g) (v0 v1 v2 v3 : Value)
    (e : (((w.setCell ⟨g, 0, none⟩ v0).setCell ⟨g, 1, none⟩ v1).setCell ⟨g, 2, none⟩ v2).setCell ⟨g, 3, none⟩ v3 = w9) : Kd.R k29 29 w9 base ok v xs ∧ w9.heap[g8]? = some (.cells cs 59 (0, 0)) ∧ w9.heap.size = w.heap.size := by
  subst e
  have b0 := blk_set hg 0 v0
  have b1 := blk_set b0 1 v1
  have b2 := blk_set b1 2 v2
  exact ⟨Kd.R_set (Kd.R_set (Kd.R_set (Kd.R_set h hg (by decide) 0 v0) b0 (by decide) 1 v1) b1 (by decide) 2 v2) b2 (by decide) 3 v3,
    blk_far (blk_far (blk_far (blk_far h8 (p := ⟨g, 0, none⟩) hne v0) (p := ⟨g, 1, none⟩) hne v1) (p := ⟨g, 2, none⟩) hne v2) (p := ⟨g, 3, none⟩) hne v3, by simp⟩
def TPost (p : TP) (q : Bool × CS) (vo : Value) (w : World) (e : Ending) (w' : World) : Prop := ∃ A n c, e = .returned (.agg #[.slice A n c, .slice (some ⟨p.bm, 0, none⟩) p.L.length p.L.length, .int .i64 q.2.at_, .int .i64 q.2.err]) ∧ TI p w' q.2 (.slice A n c) ∧ Kept w w' (ST p vo) ∧ Hat vo (.slice A n c) w.heap.size
theorem TPost.mk {p : TP} {q : Bool × CS} {vo : Value} {w w' : World} {b : Bool} {s : CS} (hq : q = (b, s)) (A : Option Addr) (n c : Nat) (h : TI p w' s (.slice A n c)) (hk : Kept w w' (ST p vo)) (ha : Hat vo (.slice A n c) w.heap.size) {e : Ending} (he : e = .returned (.agg #[.slice A n c, .slice (some ⟨p.bm, 0, none⟩) p.L.length p.L.length, .int .i64 s.at_, .int .i64 s.err])) : TPost p q vo w e w' := by
  subst hq
  exact ⟨A, n, c, he, h, hk, ha⟩
set_option maxHeartbeats 8000000 in
set_option maxRecDepth 100000 in
theorem through_ok (p : TP) (h8 : p.L.length ≤ 8) (hL : Kd.C k27 p.w0 p.A0 p.L.length p.L) (hc : p.L.length ≤ p.c0) (hwE : ∀ v ∈ p.L, wfE v.f2) : ∀ (vs : List Vx) (i : Nat) (r : Rc) (s : CS) (Ao : Option Addr) (no co : Nat) (ii : Int) (w : World), p.L.drop i = vs → i ≤ p.L.length → TI p w s (.slice Ao no co) → MOk s.many → s.out.length + 4 ^ vs.length ≤ 200000 → s.err = 0 → recOk r → ii = (i : Int) →
    Calls Try.prog 21 #[.agg #[.slice Ao no co, .slice (some ⟨p.bm, 0, none⟩) p.L.length p.L.length, .int .i64 s.at_, .int .i64 s.err], .slice p.A0 p.L.length p.c0, .int .i64 ii, .agg #[.int .i64 r.f0, .int .i64 r.f1, .int .i64 r.f2]] w fun e w' => TPost p (chGo vs i r s) (.slice Ao no co) w e w' := by
  have H8 := Aside0.mk h8
  have HCL := Aside0.mk hL
  have HC0 := Aside0.mk hc
  have HWE := Aside0.mk hwE
  clear h8 hL hc hwE
  intro vs
  induction vs with
  | nil =>
    intro i r s Ao no co ii w hd hi hI hM hlen her hrk hii
    subst hii
    obtain rfl : i = p.L.length := by have := List.drop_eq_nil_iff.1 hd; omega
    have HI := Aside0.mk hI
    have HW0 := Aside0.mk hI.hb.size
    have HLN : Aside0 (s.out.length + 1 ≤ 200000) := ⟨by simpa using hlen⟩
    clear hd hi hI hM hlen her hrk
    have HK := Aside0.mk (Kept.refl w (ST p (.slice Ao no co)))
    go_enter Try.func21, Try.ntmps21
    go_upto_region 1 with fail
    have B4 := Aside0.mk (heap_alloc_new w (.cells #[.slice Ao no co, .slice (some ⟨p.bm, 0, none⟩) p.L.length p.L.length, .int .i64 s.at_, .int .i64 s.err] 59))
    have hb_ := below_alloc (Below.refl w.heap.size w) (.cells #[.slice Ao no co, .slice (some ⟨p.bm, 0, none⟩) p.L.length p.L.length, .int .i64 s.at_, .int .i64 s.err] 59)
    have hs_ : (w.alloc (.cells #[.slice Ao no co, .slice (some ⟨p.bm, 0, none⟩) p.L.length p.L.length, .int .i64 s.at_, .int .i64 s.err] 59)).heap.size = w.heap.size + 1 := by simp
    generalize w.alloc (.cells #[.slice Ao no co, .slice (some ⟨p.bm, 0, none⟩) p.L.length p.L.length, .int .i64 s.at_, .int .i64 s.err] 59) = w1 at B4 hb_ hs_ ⊢
    replace HI := Aside0.mk (HI.out.below hb_)
    replace HK := Aside0.mk (HK.out.below hb_)
    clear hb_
    have hs1 := Aside0.mk hs_
    clear hs_
    have B7 := Aside0.mk (heap_alloc_new w1 (.cells #[.int .i64 r.f0, .int .i64 r.f1, .int .i64 r.f2] 29))
    have hb_ := below_alloc (Below.refl w1.heap.size w1) (.cells #[.int .i64 r.f0, .int .i64 r.f1, .int .i64 r.f2] 29)
    have hs_ : (w1.alloc (.cells #[.int .i64 r.f0, .int .i64 r.f1, .int .i64 r.f2] 29)).heap.size = w1.heap.size + 1 := by simp
    generalize w1.alloc (.cells #[.int .i64 r.f0, .int .i64 r.f1, .int .i64 r.f2] 29) = w2 at B7 hb_ hs_ ⊢
    replace B4 := Aside0.mk (blk_below B4.out hb_)
    replace HI := Aside0.mk (HI.out.below hb_)
    replace HK := Aside0.mk (HK.out.below hb_)
    clear hb_
    rw [hs1.out] at B7 hs_
    have hs2 := Aside0.mk hs_
    clear hs_
    have B8 := Aside0.mk (heap_alloc_new w2 (.cells #[.slice none 0 0, .slice none 0 0, .int .i64 0, .int .i64 0] 59))
    have hb_ := below_alloc (Below.refl w2.heap.size w2) (.cells #[.slice none 0 0, .slice none 0 0, .int .i64 0, .int .i64 0] 59)
    have hs_ : (w2.alloc (.cells #[.slice none 0 0, .slice none 0 0, .int .i64 0, .int .i64 0] 59)).heap.size = w2.heap.size + 1 := by simp
    generalize w2.alloc (.cells #[.slice none 0 0, .slice none 0 0, .int .i64 0, .int .i64 0] 59) = w3 at B8 hb_ hs_ ⊢
    replace B4 := Aside0.mk (blk_below B4.out hb_)
    replace B7 := Aside0.mk (blk_below B7.out hb_)
    replace HI := Aside0.mk (HI.out.below hb_)
    replace HK := Aside0.mk (HK.out.below hb_)
    clear hb_
    rw [hs2.out] at B8
    clear hs_
    have HL4 : Aside0 (p.w0.heap.size ≤ w.heap.size ∧ p.w0.heap.size ≤ w.heap.size + 1 + 1) := ⟨by have := HW0.out; omega⟩
    obtain ⟨g8, HG8⟩ : ∃ g, Aside0 (w.heap.size + 1 + 1 = g) := ⟨_, ⟨rfl⟩⟩
    rw [HG8.out] at B8 HL4 ⊢
    obtain ⟨g7, HG7⟩ : ∃ g, Aside0 (w.heap.size + 1 = g) := ⟨_, ⟨rfl⟩⟩
    rw [HG7.out] at B7 ⊢
    obtain ⟨g4, HG4⟩ : ∃ g, Aside0 (w.heap.size = g) := ⟨_, ⟨rfl⟩⟩
    rw [HG4.out] at B4 HL4 ⊢
    go_upto_region 2 with fail
    have x0_ := (blk_cell B4.out 0).trans (rfl : _ = some (.slice Ao no co : Value))
    have x1_ := (blk_cell B4.out 1).trans (rfl : _ = some (.slice (some ⟨p.bm, 0, none⟩) p.L.length p.L.length : Value))
    have x2_ := (blk_cell B4.out 2).trans (rfl : _ = some (.int .i64 s.at_ : Value))
    have x3_ := (blk_cell B4.out 3).trans (rfl : _ = some (.int .i64 s.err : Value))
    have y0_ := (blk_cell B7.out 0).trans (rfl : _ = some (.int .i64 r.f0 : Value))
    have y1_ := (blk_cell B7.out 1).trans (rfl : _ = some (.int .i64 r.f1 : Value))
    have y2_ := (blk_cell B7.out 2).trans (rfl : _ = some (.int .i64 r.f2 : Value))
    go_upto_region 3 with ((with_reducible refine gate_builtin (b := .append) (xs := #[.tmp 17, .tmp 19]) rfl ?_); at_builtin; refine Kd.R_append k29 (w0 := p.w0) p.w0.heap.size rfl (.tmp 17) (.tmp 19) 32 29 (.agg #[.int .i64 0, .int .i64 0, .int .i64 0]) 24 rfl Try.underlying32 info29 rfl (by decide) (by omega) (.slice Ao no co) s.out r [.int .i64 r.f0, .int .i64 r.f1, .int .i64 r.f2] (fun _ => True) (fun _ => False) rfl rfl ?aP (fun _ hk => hk.elim) (fun _ _ => trivial) HI.out.hv HI.out.hb HI.out.hb.size ?aL ?_; (case aP => exact k29_mkM _ _ _ r); (case aL => have := HLN.out; omega); intro v1 w4 ho_ hb_ hg_ hat_; obtain ⟨A1_, c1_, hv1_⟩ := Kd.R_slice ho_; obtain ⟨n1_, hn1_⟩ : ∃ n, n = (s.out ++ [r]).length := ⟨_, rfl⟩; rw [← hn1_] at hv1_; subst hv1_; clear hn1_; have n4_ := Aside0.mk (blk_grown B4.out hg_ (Kd.R_ne HI.out.hv B4.out (by decide))); have n8_ := Aside0.mk (blk_grown B8.out hg_ (Kd.R_ne HI.out.hv B8.out (by decide))); have HF := Aside0.mk (TI.push HI.out ho_ hb_ hg_); have HK2 := Aside0.mk (HK.out.of_grown hg_ (fun k hk => .inl (.inr hk.symm))); have HA := Aside0.mk (Hat.trans (Hat.refl (.slice Ao no co) w.heap.size) (show Hat (.slice Ao no co) (.slice A1_ n1_ c1_) w3.heap.size from hat_) HK.out.1); clear x0_ x1_ x2_ x3_ y0_ y1_ y2_ ho_ hb_ hg_ hat_; have x0_ := (blk_cell n4_.out 0).trans (rfl : _ = some (.slice Ao no co : Value)); have f0_ := blk_frozen n4_.out 0)
    clear x0_ f0_
    have B5 := Aside0.mk (blk_put n4_.out 0 (.slice A1_ n1_ c1_) rfl)
    have HF5 := Aside0.mk (HF.out.other n4_.out HL4.out.1 0 (.slice A1_ n1_ c1_))
    have HK5 := Aside0.mk (HK2.out.setCell (p := ⟨g4, 0, none⟩) (.inr (show w.heap.size ≤ g4 by have := HG4.out; omega)) (.slice A1_ n1_ c1_))
    have B85 := Aside0.mk (blk_far n8_.out (p := ⟨g4, 0, none⟩) (show g8 ≠ g4 by have := HG4.out; have := HG8.out; omega) (.slice A1_ n1_ c1_))
    generalize w4.setCell ⟨g4, 0, none⟩ (.slice A1_ n1_ c1_) = w5 at B5 HF5 HK5 B85 ⊢
    have x0_ := (blk_cell B5.out 0).trans (rfl : _ = some (.slice A1_ n1_ c1_ : Value))
    have x1_ := (blk_cell B5.out 1).trans (rfl : _ = some (.slice (some ⟨p.bm, 0, none⟩) p.L.length p.L.length : Value))
    have x2_ := (blk_cell B5.out 2).trans (rfl : _ = some (.int .i64 s.at_ : Value))
    have x3_ := (blk_cell B5.out 3).trans (rfl : _ = some (.int .i64 s.err : Value))
    have z0_ := (blk_cell B85.out 0).trans (rfl : _ = some (.slice none 0 0 : Value))
    have z1_ := (blk_cell B85.out 1).trans (rfl : _ = some (.slice none 0 0 : Value))
    have z2_ := (blk_cell B85.out 2).trans (rfl : _ = some (.int .i64 0 : Value))
    have z3_ := (blk_cell B85.out 3).trans (rfl : _ = some (.int .i64 0 : Value))
    have k0_ := blk_frozen B85.out 0
    have k1_ := blk_frozen B85.out 1
    have k2_ := blk_frozen B85.out 2
    have k3_ := blk_frozen B85.out 3
    go_wp2
    generalize hw_ : (((w5.setCell ⟨g8, 0, none⟩ (.slice A1_ n1_ c1_)).setCell ⟨g8, 1, none⟩ (.slice (some ⟨p.bm, 0, none⟩) p.L.length p.L.length)).setCell ⟨g8, 2, none⟩ (.int .i64 s.at_)).setCell ⟨g8, 3, none⟩ (.int .i64 s.err) = w99
    obtain ⟨hi_, b_⟩ := TI.ret HF5.out B85.out HL4.out.2 _ _ _ _ hw_
    have hk_ := Kept.four HK5.out (by have := HG4.out; have := HG8.out; omega : w.heap.size ≤ g8) _ _ _ _ hw_
    clear hw_
    have p0_ : w99.cell? ⟨g8, 0, none⟩ = some (.slice A1_ n1_ c1_) := (blk_cell b_ 0).trans rfl
    have p1_ : w99.cell? ⟨g8, 1, none⟩ = some (.slice (some ⟨p.bm, 0, none⟩) p.L.length p.L.length) := (blk_cell b_ 1).trans rfl
    have p2_ : w99.cell? ⟨g8, 2, none⟩ = some (.int .i64 s.at_) := (blk_cell b_ 2).trans rfl
    have p3_ : w99.cell? ⟨g8, 3, none⟩ = some (.int .i64 s.err) := (blk_cell b_ 3).trans rfl
    refine bodyPost_ret (v := .agg #[.slice A1_ n1_ c1_, .slice (some ⟨p.bm, 0, none⟩) p.L.length p.L.length, .int .i64 s.at_, .int .i64 s.err]) (by simp [results, Try.results21, go_sem, p0_, p1_, p2_, p3_]) rfl ?_
    exact TPost.mk rfl _ _ _ hi_ hk_ HA.out rfl
  | cons v vs ih =>
    have IH := Aside0.mk ih
    clear ih
    intro i r s Ao no co ii w hd hi hI hM hlen her hrk hii
    subst hii
    have hlt : i < p.L.length := by
      by_cases h : i < p.L.length
      · exact h
      · rw [List.drop_eq_nil_of_le (by omega)] at hd; cases hd
    have HI := Aside0.mk hI
    have HW0 := Aside0.mk hI.hb.size
    have HER := Aside0.mk her
    have HRK := Aside0.mk hrk
    have HWV : Aside0 (wfE v.f2) := ⟨HWE.out v (List.mem_of_mem_drop (i := i) (by rw [hd]; simp))⟩
    have HM := Aside0.mk hM
    have HLN : Aside0 (s.out.length + 4 ^ (v :: vs).length ≤ 200000) := ⟨hlen⟩
    have hv : p.L.getD i z27 = v := by
      have h1 : p.L.drop i = p.L[i] :: p.L.drop (i + 1) := List.drop_eq_getElem_cons hlt
      rw [hd] at h1
      injection h1 with h1 _
      simp [List.getD, hlt, h1]
    have HD : Aside0 (p.L.drop (i + 1) = vs) := ⟨by
      have h1 : p.L.drop i = p.L[i] :: p.L.drop (i + 1) := List.drop_eq_getElem_cons hlt
      rw [hd] at h1
      injection h1 with _ h1
      exact h1.symm⟩
    have HV := Aside0.mk hv
    obtain ⟨q, HQ⟩ : ∃ q, Aside0 (chGo (v :: vs) i r s = q) := ⟨_, ⟨rfl⟩⟩
    rw [HQ.out]
    obtain ⟨⟨xs, er⟩, HAP⟩ : ∃ ap, Aside0 (apOf v.f0 v.f2 r = ap) := ⟨_, ⟨rfl⟩⟩
    have HXL : Aside0 (xs.length ≤ 4) := ⟨by have := apOf_len v.f0 v.f2 r; rw [HAP.out] at this; exact this⟩
    obtain ⟨ad, A1, c1, A4, c4, HX⟩ : ∃ ad A1 c1 A4 c4, Aside0 (p.A0 = some ad ∧ (p.w0.cell? (ad.add (i * 6)) = some (.int .i64 v.f0) ∧ p.w0.cell? ⟨(ad.add (i * 6)).block, (ad.add (i * 6)).off + 1, none⟩ = some (.slice A1 v.f1.length c1) ∧ p.w0.cell? ⟨(ad.add (i * 6)).block, (ad.add (i * 6)).off + 2, none⟩ = some (.int .i64 v.f2.f0) ∧ p.w0.cell? ⟨(ad.add (i * 6)).block, (ad.add (i * 6)).off + 3, none⟩ = some (.int .i64 v.f2.f1) ∧ p.w0.cell? ⟨(ad.add (i * 6)).block, (ad.add (i * 6)).off + 4, none⟩ = some (.slice A4 v.f2.f2.length c4) ∧ p.w0.cell? ⟨(ad.add (i * 6)).block, (ad.add (i * 6)).off + 5, none⟩ = some (.int .i64 v.f3)) ∧ (v.f1.length ≤ c1 ∧ Kd.C (Kd.int .i64) p.w0 A1 v.f1.length v.f1 ∧ v.f2.f2.length ≤ c4 ∧ Kd.C k25 p.w0 A4 v.f2.f2.length v.f2.f2)) := by
      obtain ⟨ad, A1, c1, A4, c4, e, x0, x1, x2, x3, x4, x5, l1, g1, l4, g4⟩ := at_T27 HCL.out (i : Int) (by omega) (by omega)
      rw [show rd_T27 p.L (i : Int) = v from hv] at x0 x1 x2 x3 x4 x5 l1 g1 l4 g4
      exact ⟨ad, A1, c1, A4, c4, ⟨e, ⟨x0, x1, x2, x3, x4, x5⟩, l1, g1, l4, g4⟩⟩
    have HLT := Aside0.mk hlt
    clear hd hI hM hlen hv her hrk
    have HK := Aside0.mk (Kept.refl w (ST p (.slice Ao no co)))
    go_enter Try.func21, Try.ntmps21
    go_upto_region 1 with fail
    have B4 := Aside0.mk (heap_alloc_new w (.cells #[.slice Ao no co, .slice (some ⟨p.bm, 0, none⟩) p.L.length p.L.length, .int .i64 s.at_, .int .i64 s.err] 59))
    have hb_ := below_alloc (Below.refl w.heap.size w) (.cells #[.slice Ao no co, .slice (some ⟨p.bm, 0, none⟩) p.L.length p.L.length, .int .i64 s.at_, .int .i64 s.err] 59)
    have hs_ : (w.alloc (.cells #[.slice Ao no co, .slice (some ⟨p.bm, 0, none⟩) p.L.length p.L.length, .int .i64 s.at_, .int .i64 s.err] 59)).heap.size = w.heap.size + 1 := by simp
    generalize w.alloc (.cells #[.slice Ao no co, .slice (some ⟨p.bm, 0, none⟩) p.L.length p.L.length, .int .i64 s.at_, .int .i64 s.err] 59) = w1 at B4 hb_ hs_ ⊢
    replace HI := Aside0.mk (HI.out.below hb_)
    replace HK := Aside0.mk (HK.out.below hb_)
    clear hb_
    have hs1 := Aside0.mk hs_
    clear hs_
    have B7 := Aside0.mk (heap_alloc_new w1 (.cells #[.int .i64 r.f0, .int .i64 r.f1, .int .i64 r.f2] 29))
    have hb_ := below_alloc (Below.refl w1.heap.size w1) (.cells #[.int .i64 r.f0, .int .i64 r.f1, .int .i64 r.f2] 29)
    have hs_ : (w1.alloc (.cells #[.int .i64 r.f0, .int .i64 r.f1, .int .i64 r.f2] 29)).heap.size = w1.heap.size + 1 := by simp
    generalize w1.alloc (.cells #[.int .i64 r.f0, .int .i64 r.f1, .int .i64 r.f2] 29) = w2 at B7 hb_ hs_ ⊢
    replace B4 := Aside0.mk (blk_below B4.out hb_)
    replace HI := Aside0.mk (HI.out.below hb_)
    replace HK := Aside0.mk (HK.out.below hb_)
    clear hb_
    rw [hs1.out] at B7 hs_
    have hs2 := Aside0.mk hs_
    clear hs_
    have B8 := Aside0.mk (heap_alloc_new w2 (.cells #[.slice none 0 0, .slice none 0 0, .int .i64 0, .int .i64 0] 59))
    have hb_ := below_alloc (Below.refl w2.heap.size w2) (.cells #[.slice none 0 0, .slice none 0 0, .int .i64 0, .int .i64 0] 59)
    have hs_ : (w2.alloc (.cells #[.slice none 0 0, .slice none 0 0, .int .i64 0, .int .i64 0] 59)).heap.size = w2.heap.size + 1 := by simp
    generalize w2.alloc (.cells #[.slice none 0 0, .slice none 0 0, .int .i64 0, .int .i64 0] 59) = w3 at B8 hb_ hs_ ⊢
    replace B4 := Aside0.mk (blk_below B4.out hb_)
    replace B7 := Aside0.mk (blk_below B7.out hb_)
    replace HI := Aside0.mk (HI.out.below hb_)
    replace HK := Aside0.mk (HK.out.below hb_)
    clear hb_
    rw [hs2.out] at B8
    clear hs_
    have HL4 : Aside0 (p.w0.heap.size ≤ w.heap.size ∧ p.w0.heap.size ≤ w.heap.size + 1 + 1) := ⟨by have := HW0.out; omega⟩
    obtain ⟨g8, HG8⟩ : ∃ g, Aside0 (w.heap.size + 1 + 1 = g) := ⟨_, ⟨rfl⟩⟩
    rw [HG8.out] at B8 HL4 ⊢
    obtain ⟨g7, HG7⟩ : ∃ g, Aside0 (w.heap.size + 1 = g) := ⟨_, ⟨rfl⟩⟩
    rw [HG7.out] at B7 ⊢
    obtain ⟨g4, HG4⟩ : ∃ g, Aside0 (w.heap.size = g) := ⟨_, ⟨rfl⟩⟩
    rw [HG4.out] at B4 HL4 ⊢
    have hne : ((i : Int) == (p.L.length : Int)) = false := by simp; omega
    go_upto_region 4 with fail
    clear hne
    have HLO := Aside0.mk HI.out.low
    refine start_ (n := 11) (S := fun w' => Below w3.heap.size w3 w') (ds := []) #[false, false, false, false, false, false, false, false, false, false, false] (by kernel_rfl) rfl rfl (below_drew (Below.refl _ _)) (fun hHeld => ?_)
    refine pure_ (i := 0) (N := some 24) (v := ?_) (a' := ?_) #[true, false, false, false, false, false, false, false, false, false, false] rfl rfl (by kernel_rfl) (fun _ _ _ h => h) (Or.inl ⟨by rfl, ?_⟩) ?_ ?_
    rotate_left
    · intro w'
      go_simp
      with_reducible rfl
    rotate_left
    · simp only [Act.put, List.setIfInBounds_toArray, List.set_cons_zero, List.set_cons_succ, i64_w, i32_w]
      rfl
    refine pure_ (i := 1) (N := some 25) (v := ?_) (a' := ?_) #[true, true, false, false, false, false, false, false, false, false, false] rfl rfl (by kernel_rfl) (fun _ _ _ h => h) (Or.inl ⟨by rfl, ?_⟩) ?_ ?_
    rotate_left
    · intro w'
      go_simp
      with_reducible rfl
    rotate_left
    · simp only [Act.put, List.setIfInBounds_toArray, List.set_cons_zero, List.set_cons_succ, i64_w, i32_w]
      rfl
    refine pure_ (i := 2) (N := some 26) (v := ?_) (a' := ?_) #[true, true, true, false, false, false, false, false, false, false, false] rfl rfl (by kernel_rfl) (fun _ _ _ h => h) (Or.inl ⟨by rfl, ?_⟩) ?_ ?_
    rotate_left
    · intro w'
      have hlt_ := HLT.out
      have ha_ := HX.out.1
      go_simp
      with_reducible rfl
    rotate_left
    · simp only [Act.put, List.setIfInBounds_toArray, List.set_cons_zero, List.set_cons_succ, i64_w, i32_w]
      rfl
    refine take_ (i := 3) (N := some 27) (v := ?_) (a' := ?_) #[true, true, true, true, false, false, false, false, false, false, false] rfl rfl (by kernel_rfl) (fun _ _ _ h => h) (Or.inl ⟨by rfl, ?_⟩) hHeld ?_ ?_
    rotate_left
    · intro w' hS
      obtain ⟨x0_, x1_, x2_, x3_, x4_, x5_⟩ := cells6 (below_step HI.out.hb hS) HX.out.2.1
      go_simp
      with_reducible rfl
    rotate_left
    · simp only [Act.put, List.setIfInBounds_toArray, List.set_cons_zero, List.set_cons_succ, i64_w, i32_w]
      rfl
    refine take_ (i := 4) (N := some 28) (v := ?_) (a' := ?_) #[true, true, true, true, true, false, false, false, false, false, false] rfl rfl (by kernel_rfl) (fun _ _ _ h => h) (Or.inl ⟨by rfl, ?_⟩) hHeld ?_ ?_
    rotate_left
    · intro w' hS
      have y0_ := (blk_cell (blk_below B7.out hS) 0).trans (rfl : _ = some (.int .i64 r.f0 : Value))
      have y1_ := (blk_cell (blk_below B7.out hS) 1).trans (rfl : _ = some (.int .i64 r.f1 : Value))
      have y2_ := (blk_cell (blk_below B7.out hS) 2).trans (rfl : _ = some (.int .i64 r.f2 : Value))
      go_simp
      with_reducible rfl
    rotate_left
    · simp only [Act.put, List.setIfInBounds_toArray, List.set_cons_zero, List.set_cons_succ, i64_w, i32_w]
      rfl
    refine one_ (i := 5) (N := some 29) #[true, true, true, true, true, true, false, false, false, false, false] rfl rfl (by kernel_rfl) (by simp) (fun K hK => ?_)
    refine goes_ Try.func12 (by kernel_rfl) rfl #[.agg #[.int .i64 v.f0, .slice A1 v.f1.length c1, .int .i64 v.f2.f0, .int .i64 v.f2.f1, .slice A4 v.f2.f2.length c4, .int .i64 v.f3], .agg #[.int .i64 r.f0, .int .i64 r.f1, .int .i64 r.f2]] (by rfl) rfl rfl (by simp only [List.map_toArray, List.map_cons, List.map_nil]; rfl) ?_
    with_reducible refine (refApply_ok v r HWV.out HRK.out A1 c1 A4 c4 _ HX.out.2.2.1 (Kd.C_below HX.out.2.2.2.1 (below_drew HI.out.hb)) HX.out.2.2.2.2.1 (Kd.C_below HX.out.2.2.2.2.2 (below_drew HI.out.hb)) xs er HAP.out).mono ?_
    rintro e w2 ⟨v1, rfl, hr_, hb_⟩
    refine ⟨_, rfl, ?_⟩
    obtain ⟨An, cn, rfl⟩ := Kd.R_slice hr_
    replace hb_ := below_step hHeld hb_
    refine hK.out _ _ hb_ (fun _ => ?_)
    clear hK K hHeld
    refine norm_ (a' := ?_) ?_ ?_
    rotate_left
    · show Act.put _ (some 29) _ = _
      simp only [Act.put, List.setIfInBounds_toArray, List.set_cons_zero, List.set_cons_succ, i64_w, i32_w]
      rfl
    refine stronger_ (S' := fun w' => Below w2.heap.size w2 w') (fun w' h => below_step hb_ h) (Below.refl _ _) ?_
    have hHeld := Below.refl w2.heap.size w2
    have HN := Aside0.mk hr_
    clear hr_
    replace HI := Aside0.mk (HI.out.below hb_)
    replace HK := Aside0.mk (HK.out.below hb_)
    replace B4 := Aside0.mk (blk_below B4.out hb_)
    replace B7 := Aside0.mk (blk_below B7.out hb_)
    replace B8 := Aside0.mk (blk_below B8.out hb_)
    clear hb_
    refine pure_ (i := 6) (N := some 23) (v := ?_) (a' := ?_) #[true, true, true, true, true, true, true, false, false, false, false] rfl rfl (by kernel_rfl) (fun _ _ _ h => h) (Or.inl ⟨by rfl, ?_⟩) ?_ ?_
    rotate_left
    · intro w'
      go_simp
      with_reducible rfl
    rotate_left
    · simp only [Act.put, List.setIfInBounds_toArray, List.set_cons_zero, List.set_cons_succ, i64_w, i32_w]
      rfl
    refine pure_ (i := 7) (N := some 30) (v := ?_) (a' := ?_) #[true, true, true, true, true, true, true, true, false, false, false] rfl rfl (by kernel_rfl) (fun _ _ _ h => h) (Or.inl ⟨by rfl, ?_⟩) ?_ ?_
    rotate_left
    · intro w'
      go_simp
      with_reducible rfl
    rotate_left
    · simp only [Act.put, List.setIfInBounds_toArray, List.set_cons_zero, List.set_cons_succ, i64_w, i32_w]
      rfl
    refine pure_ (i := 8) (N := some 31) (v := ?_) (a' := ?_) #[true, true, true, true, true, true, true, true, true, false, false] rfl rfl (by kernel_rfl) (fun _ _ _ h => h) (Or.inl ⟨by rfl, ?_⟩) ?_ ?_
    rotate_left
    · intro w'
      go_simp
      with_reducible rfl
    rotate_left
    · simp only [Act.put, List.setIfInBounds_toArray, List.set_cons_zero, List.set_cons_succ, i64_w, i32_w]
      rfl
    refine pure_ (i := 9) (N := some 9) (v := ?_) (a' := ?_) #[true, true, true, true, true, true, true, true, true, true, false] rfl rfl (by kernel_rfl) (fun _ _ _ h => h) (Or.inl ⟨by rfl, ?_⟩) ?_ ?_
    rotate_left
    · intro w'
      go_simp
      with_reducible rfl
    rotate_left
    · simp only [Act.put, List.setIfInBounds_toArray, List.set_cons_zero, List.set_cons_succ, i64_w, i32_w]
      rfl
    refine pure_ (i := 10) (N := some 10) (v := ?_) (a' := ?_) #[true, true, true, true, true, true, true, true, true, true, true] rfl rfl (by kernel_rfl) (fun _ _ _ h => h) (Or.inl ⟨by rfl, ?_⟩) ?_ ?_
    rotate_left
    · intro w'
      go_simp
      with_reducible rfl
    rotate_left
    · simp only [Act.put, List.setIfInBounds_toArray, List.set_cons_zero, List.set_cons_succ, i64_w, i32_w]
      rfl
    refine done_ (by kernel_rfl) ?_

    have hlt_ := HLT.out
    have hxl_ := HXL.out
    have h8_ := H8.out
    obtain ⟨m0, HM0⟩ : ∃ m, Aside0 (s.many.getD i 0 = m) := ⟨_, ⟨rfl⟩⟩
    have hm_ := HM.out.get i
    rw [HM0.out] at hm_
    have hm0_ := hm_.1
    have hm1_ := hm_.2
    clear hm_
    have HNM : Aside0 ((nums .i64 s.many).toArray[i]? = some (.int .i64 m0)) := ⟨by rw [← HM0.out]; exact nums_at _ _ _ (by rw [HI.out.hl]; exact HLT.out)⟩
    go_upto_region 5 with fail
    refine start_ (n := 13) (S := fun w' => Below w2.heap.size w2 w') (ds := [12]) #[false, false, false, false, false, false, false, false, false, false, false, false, false] (by kernel_rfl) rfl rfl (below_drew (Below.refl _ _)) (fun hHeld => ?_)
    refine pure_ (i := 0) (N := some 32) (v := ?_) (a' := ?_) #[true, false, false, false, false, false, false, false, false, false, false, false, false] rfl rfl (by kernel_rfl) (fun _ _ _ h => h) (Or.inl ⟨by rfl, ?_⟩) ?_ ?_
    rotate_left
    · intro w'
      go_simp
      with_reducible rfl
    rotate_left
    · simp only [Act.put, List.setIfInBounds_toArray, List.set_cons_zero, List.set_cons_succ, i64_w, i32_w]
      rfl
    refine pure_ (i := 2) (N := some 34) (v := ?_) (a' := ?_) #[true, false, true, false, false, false, false, false, false, false, false, false, false] rfl rfl (by kernel_rfl) (fun _ _ _ h => h) (Or.inl ⟨by rfl, ?_⟩) ?_ ?_
    rotate_left
    · intro w'
      go_simp
      with_reducible rfl
    rotate_left
    · simp only [Act.put, List.setIfInBounds_toArray, List.set_cons_zero, List.set_cons_succ, i64_w, i32_w]
      rfl
    refine pure_ (i := 3) (N := some 35) (v := ?_) (a' := ?_) #[true, false, true, true, false, false, false, false, false, false, false, false, false] rfl rfl (by kernel_rfl) (fun _ _ _ h => h) (Or.inl ⟨by rfl, ?_⟩) ?_ ?_
    rotate_left
    · intro w'
      go_simp
      with_reducible rfl
    rotate_left
    · simp only [Act.put, List.setIfInBounds_toArray, List.set_cons_zero, List.set_cons_succ, i64_w, i32_w]
      rfl
    refine pure_ (i := 5) (N := some 37) (v := ?_) (a' := ?_) #[true, false, true, true, false, true, false, false, false, false, false, false, false] rfl rfl (by kernel_rfl) (fun _ _ _ h => h) (Or.inl ⟨by rfl, ?_⟩) ?_ ?_
    rotate_left
    · intro w'
      go_simp
      with_reducible rfl
    rotate_left
    · simp only [Act.put, List.setIfInBounds_toArray, List.set_cons_zero, List.set_cons_succ, i64_w, i32_w]
      rfl
    refine pure_ (i := 8) (N := some 40) (v := ?_) (a' := ?_) #[true, false, true, true, false, true, false, false, true, false, false, false, false] rfl rfl (by kernel_rfl) (fun _ _ _ h => h) (Or.inl ⟨by rfl, ?_⟩) ?_ ?_
    rotate_left
    · intro w'
      go_simp
      with_reducible rfl
    rotate_left
    · simp only [Act.put, List.setIfInBounds_toArray, List.set_cons_zero, List.set_cons_succ, i64_w, i32_w]
      rfl
    refine pure_ (i := 9) (N := some 41) (v := ?_) (a' := ?_) #[true, false, true, true, false, true, false, false, true, true, false, false, false] rfl rfl (by kernel_rfl) (fun _ _ _ h => h) (Or.inl ⟨by rfl, ?_⟩) ?_ ?_
    rotate_left
    · intro w'
      go_simp
      with_reducible rfl
    rotate_left
    · simp only [Act.put, List.setIfInBounds_toArray, List.set_cons_zero, List.set_cons_succ, i64_w, i32_w]
      rfl
    refine take_ (i := 1) (N := some 33) (v := ?_) (a' := ?_) #[true, true, true, true, false, true, false, false, true, true, false, false, false] rfl rfl (by kernel_rfl) (fun _ _ _ h => h) (Or.inl ⟨by rfl, ?_⟩) hHeld ?_ ?_
    rotate_left
    · intro w' hS
      have x_ := (blk_cell (blk_below B4.out hS) 1).trans (rfl : _ = some (.slice (some ⟨p.bm, 0, none⟩) p.L.length p.L.length : Value))
      go_simp
      with_reducible rfl
    rotate_left
    · simp only [Act.put, List.setIfInBounds_toArray, List.set_cons_zero, List.set_cons_succ, i64_w, i32_w]
      rfl
    refine take_ (i := 4) (N := some 36) (v := ?_) (a' := ?_) #[true, true, true, true, true, true, false, false, true, true, false, false, false] rfl rfl (by kernel_rfl) (fun _ _ _ h => h) (Or.inl ⟨by rfl, ?_⟩) hHeld ?_ ?_
    rotate_left
    · intro w' hS
      have x_ := (blk_cell (blk_below B4.out hS) 1).trans (rfl : _ = some (.slice (some ⟨p.bm, 0, none⟩) p.L.length p.L.length : Value))
      go_simp
      with_reducible rfl
    rotate_left
    · simp only [Act.put, List.setIfInBounds_toArray, List.set_cons_zero, List.set_cons_succ, i64_w, i32_w]
      rfl
    refine pure_ (i := 6) (N := some 38) (v := ?_) (a' := ?_) #[true, true, true, true, true, true, true, false, true, true, false, false, false] rfl rfl (by kernel_rfl) (fun _ _ _ h => h) (Or.inl ⟨by rfl, ?_⟩) ?_ ?_
    rotate_left
    · intro w'
      go_simp
      with_reducible rfl
    rotate_left
    · simp only [Act.put, List.setIfInBounds_toArray, List.set_cons_zero, List.set_cons_succ, i64_w, i32_w]
      rfl
    refine take_ (i := 7) (N := some 39) (v := ?_) (a' := ?_) #[true, true, true, true, true, true, true, true, true, true, false, false, false] rfl rfl (by kernel_rfl) (fun _ _ _ h => h) (Or.inl ⟨by rfl, ?_⟩) hHeld ?_ ?_
    rotate_left
    · intro w' hS
      have x_ := (blk_cell (blk_below HI.out.hm hS) i).trans HNM.out
      go_simp
      with_reducible rfl
    rotate_left
    · simp only [Act.put, List.setIfInBounds_toArray, List.set_cons_zero, List.set_cons_succ, i64_w, i32_w]
      rfl
    refine pure_ (i := 10) (N := some 42) (v := ?_) (a' := ?_) #[true, true, true, true, true, true, true, true, true, true, true, false, false] rfl rfl (by kernel_rfl) (fun _ _ _ h => h) (Or.inl ⟨by rfl, ?_⟩) ?_ ?_
    rotate_left
    · intro w'
      go_simp
      with_reducible rfl
    rotate_left
    · simp only [Act.put, List.setIfInBounds_toArray, List.set_cons_zero, List.set_cons_succ, i64_w, i32_w]
      rfl
    refine pure_ (i := 11) (N := some 43) (v := ?_) (a' := ?_) #[true, true, true, true, true, true, true, true, true, true, true, true, false] rfl rfl (by kernel_rfl) (fun _ _ _ h => h) (Or.inl ⟨by rfl, ?_⟩) ?_ ?_
    rotate_left
    · intro w'
      go_simp
      with_reducible rfl
    rotate_left
    · simp only [Act.put, List.setIfInBounds_toArray, List.set_cons_zero, List.set_cons_succ, i64_w, i32_w]
      rfl
    refine last_ (i := 12) (N := none) #[true, true, true, true, true, true, true, true, true, true, true, true, true] rfl rfl (by kernel_rfl) (by simp) (fun K hK => ?_)
    have x_ := (blk_cell (blk_below HI.out.hm (below_drew (Below.refl _ _))) i).trans HNM.out
    have f_ := blk_frozen (blk_below HI.out.hm (below_drew (Below.refl _ _))) i
    have hw_ : wrap64 (m0 + (xs.length : Int)) = m0 + (xs.length : Int) := by unfold wrap64; omega
    refine skip_ (w1 := w2.drew.setCell ⟨p.bm, i, none⟩ (.int .i64 (m0 + (xs.length : Int)))) (by rfl) rfl (by go_simp; done) ?_
    clear x_ f_ hw_
    refine hK.out _ _ ?_
    clear hK K
    refine done_ (by kernel_rfl) ?_

    have hd_ : Below w2.heap.size w2 w2.drew := below_drew (Below.refl _ _)
    replace B4 := Aside0.mk (blk_far (blk_below B4.out hd_) (p := ⟨p.bm, i, none⟩) (blk_ne B4.out HI.out.hm (by decide)) (.int .i64 (m0 + (xs.length : Int))))
    replace B8 := Aside0.mk (blk_far (blk_below B8.out hd_) (p := ⟨p.bm, i, none⟩) (blk_ne B8.out HI.out.hm (by decide)) (.int .i64 (m0 + (xs.length : Int))))
    replace HN := Aside0.mk (Kd.R_set (Kd.R_below HN.out hd_) (blk_below HI.out.hm hd_) (by decide) i (.int .i64 (m0 + (xs.length : Int))))
    replace HK := Aside0.mk ((HK.out.below hd_).setCell (p := ⟨p.bm, i, none⟩) (.inl (.inl rfl)) (.int .i64 (m0 + (xs.length : Int))))
    replace HI := Aside0.mk ((HI.out.below hd_).count i (m0 + (xs.length : Int)))
    have HS2 : Aside0 ((w2.drew.setCell ⟨p.bm, i, none⟩ (.int .i64 (m0 + (xs.length : Int)))).heap.size = w2.heap.size) := ⟨by simp⟩
    clear hd_ B7
    generalize w2.drew.setCell ⟨p.bm, i, none⟩ (.int .i64 (m0 + (xs.length : Int))) = w5 at B4 B8 HN HK HI HS2 ⊢
    obtain ⟨m, HMM⟩ : ∃ m, Aside0 (m0 + (xs.length : Int) = m) := ⟨_, ⟨rfl⟩⟩
    rw [HMM.out] at HI
    have HC : Aside0 (cntOf v i r s = m) := ⟨by unfold cntOf; rw [HAP.out, HM0.out]; exact HMM.out⟩
    have HE : Aside0 (errOf v i r s = if er = 0 ∧ 10000 < m then 3 else er) := ⟨by unfold errOf; rw [HC.out, HAP.out]⟩
    have HQ2 : Aside0 ((if (if er = 0 ∧ 10000 < m then 3 else er) ≠ 0 then (false, (⟨s.out, s.many.set i m, i, if er = 0 ∧ 10000 < m then 3 else er⟩ : CS)) else goL (chGo vs (i + 1)) xs ⟨s.out, s.many.set i m, s.at_, s.err⟩) = q) := ⟨by rw [← HQ.out, chGo, HE.out, HC.out, HAP.out]⟩
    have HMR : Aside0 (0 ≤ m) := ⟨by have := HMM.out; omega⟩
    clear HC HE HQ hm0_ hm1_ HNM
    have x1_ := (blk_cell B4.out 1).trans (rfl : _ = some (.slice (some ⟨p.bm, 0, none⟩) p.L.length p.L.length : Value))
    have cm_ := (blk_cell HI.out.hm i).trans (nums_at _ _ _ (by have h1 := HI.out.hl; simp only at h1 ⊢; rw [h1]; exact HLT.out))
    have hset_ : (s.many.set i m).getD i 0 = m := by have h1 := HI.out.hl; simp only [List.length_set] at h1; simp [List.getD, h1, HLT.out]
    simp only [hset_] at cm_
    clear hset_
    by_cases he : er = 0
    · subst he
      by_cases hm : 10000 < m
      · have hmt : decide (10000 < m) = true := by simpa using hm
        have HQ3 : Aside0 (q = (false, ⟨s.out, s.many.set i m, i, 3⟩)) := ⟨by have h := HQ2.out; have hc : (if (0 : Int) = 0 ∧ 10000 < m then (3 : Int) else 0) = 3 := if_pos ⟨rfl, hm⟩; rw [hc, if_pos (by decide)] at h; exact h.symm⟩
        go_upto_region 9 with fail
        clear x1_ cm_ hmt
        have x2_ := (blk_cell B4.out 2).trans (rfl : _ = some (.int .i64 s.at_ : Value))
        have f2_ := blk_frozen B4.out 2
        go_upto_region 10 with fail
        clear x2_ f2_
        replace HI := Aside0.mk (TI.mark (HI.out.other B4.out HL4.out.1 2 (.int .i64 (i : Int))) (i : Int) s.err)
        replace HK := Aside0.mk (HK.out.setCell (p := ⟨g4, 2, none⟩) (.inr (show w.heap.size ≤ g4 by have := HG4.out; omega)) (.int .i64 (i : Int)))
        replace B8 := Aside0.mk (blk_far B8.out (p := ⟨g4, 2, none⟩) (show g8 ≠ g4 by have := HG4.out; have := HG8.out; omega) (.int .i64 (i : Int)))
        replace B4 := Aside0.mk (blk_put B4.out 2 (.int .i64 (i : Int)) rfl)
        generalize w5.setCell ⟨g4, 2, none⟩ (.int .i64 (i : Int)) = w6 at HI HK B8 B4 ⊢
        have x3_ := (blk_cell B4.out 3).trans (rfl : _ = some (.int .i64 s.err : Value))
        have f3_ := blk_frozen B4.out 3
        go_upto_region 11 with fail
        clear x3_ f3_
        replace HI := Aside0.mk (TI.mark (HI.out.other B4.out HL4.out.1 3 (.int .i64 3)) (i : Int) 3)
        replace HK := Aside0.mk (HK.out.setCell (p := ⟨g4, 3, none⟩) (.inr (show w.heap.size ≤ g4 by have := HG4.out; omega)) (.int .i64 3))
        replace B8 := Aside0.mk (blk_far B8.out (p := ⟨g4, 3, none⟩) (show g8 ≠ g4 by have := HG4.out; have := HG8.out; omega) (.int .i64 3))
        replace B4 := Aside0.mk (blk_put B4.out 3 (.int .i64 3) rfl)
        generalize w6.setCell ⟨g4, 3, none⟩ (.int .i64 3) = w7 at HI HK B8 B4 ⊢
        have x0_ := (blk_cell B4.out 0).trans (rfl : _ = some (.slice Ao no co : Value))
        have x1_ := (blk_cell B4.out 1).trans (rfl : _ = some (.slice (some ⟨p.bm, 0, none⟩) p.L.length p.L.length : Value))
        have x2_ := (blk_cell B4.out 2).trans (rfl : _ = some (.int .i64 (i : Int) : Value))
        have x3_ := (blk_cell B4.out 3).trans (rfl : _ = some (.int .i64 3 : Value))
        have z0_ := (blk_cell B8.out 0).trans (rfl : _ = some (.slice none 0 0 : Value))
        have z1_ := (blk_cell B8.out 1).trans (rfl : _ = some (.slice none 0 0 : Value))
        have z2_ := (blk_cell B8.out 2).trans (rfl : _ = some (.int .i64 0 : Value))
        have z3_ := (blk_cell B8.out 3).trans (rfl : _ = some (.int .i64 0 : Value))
        have k0_ := blk_frozen B8.out 0
        have k1_ := blk_frozen B8.out 1
        have k2_ := blk_frozen B8.out 2
        have k3_ := blk_frozen B8.out 3
        go_wp2
        generalize hw_ : (((w7.setCell ⟨g8, 0, none⟩ (.slice Ao no co)).setCell ⟨g8, 1, none⟩ (.slice (some ⟨p.bm, 0, none⟩) p.L.length p.L.length)).setCell ⟨g8, 2, none⟩ (.int .i64 (i : Int))).setCell ⟨g8, 3, none⟩ (.int .i64 3) = w99
        obtain ⟨hi_, b_⟩ := TI.ret HI.out B8.out HL4.out.2 _ _ _ _ hw_
        have hk_ := Kept.four HK.out (by have := HG4.out; have := HG8.out; omega : w.heap.size ≤ g8) _ _ _ _ hw_
        clear hw_
        have p0_ : w99.cell? ⟨g8, 0, none⟩ = some (.slice Ao no co) := (blk_cell b_ 0).trans rfl
        have p1_ : w99.cell? ⟨g8, 1, none⟩ = some (.slice (some ⟨p.bm, 0, none⟩) p.L.length p.L.length) := (blk_cell b_ 1).trans rfl
        have p2_ : w99.cell? ⟨g8, 2, none⟩ = some (.int .i64 (i : Int)) := (blk_cell b_ 2).trans rfl
        have p3_ : w99.cell? ⟨g8, 3, none⟩ = some (.int .i64 3) := (blk_cell b_ 3).trans rfl
        refine bodyPost_ret (v := .agg #[.slice Ao no co, .slice (some ⟨p.bm, 0, none⟩) p.L.length p.L.length, .int .i64 (i : Int), .int .i64 3]) (by simp [results, Try.results21, go_sem, p0_, p1_, p2_, p3_]) rfl ?_
        exact TPost.mk HQ3.out _ _ _ hi_ hk_ (Hat.refl _ _) rfl
      · have hmt : decide (10000 < m) = false := by simpa using hm
        have HQ3 : Aside0 (goL (chGo vs (i + 1)) xs ⟨s.out, s.many.set i m, s.at_, s.err⟩ = q) := ⟨by have h := HQ2.out; have hc : (if (0 : Int) = 0 ∧ 10000 < m then (3 : Int) else 0) = 0 := if_neg (fun h => hm h.2); rw [hc, if_neg (by decide)] at h; exact h⟩
        have HMO : Aside0 (MOk (s.many.set i m)) := ⟨HM.out.set i HMR.out (by omega)⟩
        clear HQ2
        go_upto_region 12 with fail
        clear x1_ cm_ hmt hm
        obtain ⟨s1, HS1⟩ : ∃ s1 : CS, Aside0 (s1 = ⟨s.out, s.many.set i m, s.at_, s.err⟩) := ⟨_, ⟨rfl⟩⟩
        have HSO : Aside0 (s1.out = s.out) := ⟨by rw [HS1.out]⟩
        have HSE : Aside0 (s1.err = 0) := ⟨by rw [HS1.out]; exact HER.out⟩
        have HMO1 : Aside0 (MOk s1.many) := ⟨by rw [HS1.out]; exact HMO.out⟩
        replace B4 : Aside0 (WB w5 g4 (.slice Ao no co) p.bm p.L.length s1.at_ s1.err) := ⟨⟨by rw [HS1.out]; exact B4.out⟩⟩
        rw [← HS1.out] at HQ3 HI
        clear HMO HS1
        obtain ⟨n2, HN2⟩ : ∃ n, Aside0 (w2.heap.size = n) := ⟨_, ⟨rfl⟩⟩
        have HLW : Aside0 (w.heap.size ≤ n2) := ⟨by have := HK.out.1; rw [HS2.out, HN2.out] at this; exact this⟩
        have HNX := Aside0.mk (Kd.R_mono (ok' := fun k => w3.heap.size ≤ k ∧ k < n2) (Kd.R_bound HN.out) (fun k hk => ⟨hk.2.1, by have h1 := hk.2.2.1; rw [HS2.out, HN2.out] at h1; exact h1⟩))
        clear HN
        have HXR : Aside0 (∀ x ∈ xs, recOk x) := ⟨by have h := apOf_recOk v.f0 v.f2 r HWV.out HRK.out; rw [HAP.out] at h; exact h⟩
        go_upto_region 13 with fail
        go_loopw [11] (fun v11 wr => ∃ (k : Nat) (sk : CS) (Ak : Option Addr) (nk ck : Nat), k ≤ xs.length ∧ v11 = .int .i64 (k : Int) ∧ Aside0 ((goL (chGo vs (i + 1)) (xs.take k) s1 = (true, sk) ∧ sk.err = 0 ∧ MOk sk.many ∧ sk.out.length ≤ s.out.length + k * 4 ^ vs.length) ∨ (q = (false, sk) ∧ sk.err ≠ 0)) ∧ Aside0 (TI p wr sk (.slice Ak nk ck)) ∧ Aside0 (Kept w wr (ST p (.slice Ao no co))) ∧ Aside0 (Hat (.slice Ao no co) (.slice Ak nk ck) n2 ∧ n2 ≤ wr.heap.size) ∧ Aside0 (Kd.R k29 29 wr w3.drew.heap.size (fun k => w3.heap.size ≤ k ∧ k < n2) (.slice An xs.length cn) xs) ∧ Aside0 (WB wr g4 (.slice Ak nk ck) p.bm p.L.length sk.at_ sk.err) ∧ Aside0 (wr.heap[g8]? = some (.cells #[.slice none 0 0, .slice none 0 0, .int .i64 0, .int .i64 0] 59 (0, 0)))) (fun v11 _ => xs.length - (intOf v11).toNat)
        case atStart => exact ⟨0, s1, Ao, no, co, by omega, rfl, ⟨.inl ⟨rfl, HSE.out, HMO1.out, by rw [HSO.out]; omega⟩⟩, HI, HK, ⟨Hat.refl _ _, by rw [HS2.out, HN2.out]; exact Nat.le_refl _⟩, HNX, B4, B8⟩
        case round =>
          clear HI HK HNX HMO1 HSE HSO B4 B8
          obtain ⟨k, sk, Ak, nk, ck, hk, rfl, HG, HIk, HKk, HAk, HNk, B4, B8⟩ := hrel
          obtain ⟨x0_, x1_, x2_, x3_⟩ := B4.out.cells
          rcases HG.out with ⟨hg, h0, hmo, hlen⟩ | ⟨hq, hne⟩
          · have HGG := Aside0.mk hg
            have HS0 := Aside0.mk h0
            have HMO := Aside0.mk hmo
            have HLE := Aside0.mk hlen
            have hz : (sk.err == 0) = true := by simpa using h0
            clear hg h0 hmo hlen HG
            by_cases hkl : k < xs.length
            · obtain ⟨ad2, hA2, y0, y1, y2⟩ := at_T29 (Kd.R_reads' HNk.out).2.2 (k : Int) (by omega) (by omega)
              obtain ⟨x, HX2⟩ : ∃ x, Aside0 (rd_T29 xs (k : Int) = x) := ⟨_, ⟨rfl⟩⟩
              have HXK : Aside0 (xs[k] = x) := ⟨by rw [← HX2.out]; unfold rd_T29; simp [List.getD, hkl]⟩
              have HXO : Aside0 (recOk x) := ⟨HXR.out x (by rw [← HXK.out]; exact List.getElem_mem _)⟩
              rw [HX2.out] at y0 y1 y2
              simp only [Int.toNat_natCast] at y0 y1 y2
              subst hA2
              have HY0 := Aside0.mk y0
              have HY1 := Aside0.mk y1
              have HY2 := Aside0.mk y2
              clear y0 y1 y2
              go_upto_region 15 with fail
              clear x0_ x1_ x2_ x3_ hz
              have HLE2 : Aside0 (sk.out.length + 4 ^ vs.length ≤ 200000) := ⟨by
                have h1 := HLE.out
                have h2 := HLN.out
                rw [List.length_cons, Nat.pow_succ] at h2
                have h3 : (k + 1) * 4 ^ vs.length ≤ 4 * 4 ^ vs.length := Nat.mul_le_mul_right _ (by omega)
                rw [Nat.succ_mul] at h3
                rw [Nat.mul_comm (4 ^ vs.length) 4] at h2
                generalize k * 4 ^ vs.length = a1 at h1 h3
                generalize 4 ^ vs.length = a2 at h2 h3 ⊢
                omega⟩
              refine start_ (n := 10) (S := fun w' => Below wr.heap.size wr w') (ds := [8, 9]) #[false, false, false, false, false, false, false, false, false, false] (by kernel_rfl) rfl rfl (below_drew (Below.refl _ _)) (fun hHeld => ?_)
              refine pure_ (i := 1) (N := some 73) (v := ?_) (a' := ?_) #[false, true, false, false, false, false, false, false, false, false] rfl rfl (by kernel_rfl) (fun _ _ _ h => h) (Or.inl ⟨by rfl, ?_⟩) ?_ ?_
              rotate_left
              · intro w'
                go_simp
                with_reducible rfl
              rotate_left
              · simp only [Act.put, List.setIfInBounds_toArray, List.set_cons_zero, List.set_cons_succ, i64_w, i32_w]
                rfl
              refine pure_ (i := 2) (N := some 74) (v := ?_) (a' := ?_) #[false, true, true, false, false, false, false, false, false, false] rfl rfl (by kernel_rfl) (fun _ _ _ h => h) (Or.inl ⟨by rfl, ?_⟩) ?_ ?_
              rotate_left
              · intro w'
                go_simp
                with_reducible rfl
              rotate_left
              · simp only [Act.put, List.setIfInBounds_toArray, List.set_cons_zero, List.set_cons_succ, i64_w, i32_w]
                rfl
              refine pure_ (i := 3) (N := some 75) (v := ?_) (a' := ?_) #[false, true, true, true, false, false, false, false, false, false] rfl rfl (by kernel_rfl) (fun _ _ _ h => h) (Or.inl ⟨by rfl, ?_⟩) ?_ ?_
              rotate_left
              · intro w'
                go_simp
                with_reducible rfl
              rotate_left
              · simp only [Act.put, List.setIfInBounds_toArray, List.set_cons_zero, List.set_cons_succ, i64_w, i32_w]
                rfl
              refine pure_ (i := 4) (N := some 76) (v := ?_) (a' := ?_) #[false, true, true, true, true, false, false, false, false, false] rfl rfl (by kernel_rfl) (fun _ _ _ h => h) (Or.inl ⟨by rfl, ?_⟩) ?_ ?_
              rotate_left
              · intro w'
                go_simp
                with_reducible rfl
              rotate_left
              · simp only [Act.put, List.setIfInBounds_toArray, List.set_cons_zero, List.set_cons_succ, i64_w, i32_w]
                rfl
              refine pure_ (i := 5) (N := some 77) (v := ?_) (a' := ?_) #[false, true, true, true, true, true, false, false, false, false] rfl rfl (by kernel_rfl) (fun _ _ _ h => h) (Or.inl ⟨by rfl, ?_⟩) ?_ ?_
              rotate_left
              · intro w'
                go_simp
                with_reducible rfl
              rotate_left
              · simp only [Act.put, List.setIfInBounds_toArray, List.set_cons_zero, List.set_cons_succ, i64_w, i32_w]
                rfl
              refine pure_ (i := 6) (N := some 78) (v := ?_) (a' := ?_) #[false, true, true, true, true, true, true, false, false, false] rfl rfl (by kernel_rfl) (fun _ _ _ h => h) (Or.inl ⟨by rfl, ?_⟩) ?_ ?_
              rotate_left
              · intro w'
                go_simp
                with_reducible rfl
              rotate_left
              · simp only [Act.put, List.setIfInBounds_toArray, List.set_cons_zero, List.set_cons_succ, i64_w, i32_w]
                rfl
              refine take_ (i := 0) (N := some 72) (v := ?_) (a' := ?_) #[true, true, true, true, true, true, true, false, false, false] rfl rfl (by kernel_rfl) (fun _ _ _ h => h) (Or.inl ⟨by rfl, ?_⟩) hHeld ?_ ?_
              rotate_left
              · intro w' hS
                obtain ⟨x0_, x1_, x2_, x3_⟩ := (B4.out.below hS).cells
                go_simp
                with_reducible rfl
              rotate_left
              · simp only [Act.put, List.setIfInBounds_toArray, List.set_cons_zero, List.set_cons_succ, i64_w, i32_w]
                rfl
              refine take_ (i := 7) (N := some 79) (v := ?_) (a' := ?_) #[true, true, true, true, true, true, true, true, false, false] rfl rfl (by kernel_rfl) (fun _ _ _ h => h) (Or.inl ⟨by rfl, ?_⟩) hHeld ?_ ?_
              rotate_left
              · intro w' hS
                have y0_ := pw_cell_below hS HY0.out
                have y1_ := pw_cell_below hS HY1.out
                have y2_ := pw_cell_below hS HY2.out
                go_simp
                with_reducible rfl
              rotate_left
              · simp only [Act.put, List.setIfInBounds_toArray, List.set_cons_zero, List.set_cons_succ, i64_w, i32_w]
                rfl
              refine last_ (i := 8) (N := some 80) #[true, true, true, true, true, true, true, true, true, false] rfl rfl (by kernel_rfl) (by simp) (fun K hK => ?_)
              refine goes_ Try.func21 (by kernel_rfl) rfl #[.agg #[.slice Ak nk ck, .slice (some ⟨p.bm, 0, none⟩) p.L.length p.L.length, .int .i64 sk.at_, .int .i64 sk.err], .slice p.A0 p.L.length p.c0, .int .i64 (wrap64 ((i : Int) + 1)), .agg #[.int .i64 x.f0, .int .i64 x.f1, .int .i64 x.f2]] (by rfl) rfl rfl (by simp only [List.map_toArray, List.map_cons, List.map_nil]; rfl) ?_
              with_reducible refine (IH.out (i + 1) x sk Ak nk ck (wrap64 ((i : Int) + 1)) _ HD.out (by omega) (HIk.out.below (below_drew (Below.refl _ _))) HMO.out HLE2.out HS0.out HXO.out (by unfold wrap64; omega)).mono ?_
              rintro e w6 ⟨A6, n6, c6, rfl, hi_, hk_, ha_⟩
              refine ⟨_, rfl, ?_⟩
              have HYM := Aside0.mk (chGo_many vs (i + 1) x sk sk.many.length rfl).2
              have HYE := Aside0.mk (chGo_err vs (i + 1) x sk HS0.out)
              have HYL := Aside0.mk (chGo_len vs (i + 1) x sk)
              obtain ⟨⟨b, s6⟩, H6⟩ : ∃ q, Aside0 (chGo vs (i + 1) x sk = q) := ⟨_, ⟨rfl⟩⟩
              rw [H6.out] at HYM HYE HYL hi_ ⊢
              simp only at HYM HYE HYL hi_ ⊢
              have hd_ : Below wr.heap.size wr wr.drew := below_drew (Below.refl _ _)
              have N4 : ¬ ST p (.slice Ak nk ck) g4 := fun h => Or.elim h (fun h => blk_ne B4.out.b HIk.out.hm (by decide) h) (fun h => Kd.R_ne HIk.out.hv B4.out.b (by decide) h)
              have N8 : ¬ ST p (.slice Ak nk ck) g8 := fun h => Or.elim h (fun h => blk_ne B8.out HIk.out.hm (by decide) h) (fun h => Kd.R_ne HIk.out.hv B8.out (by decide) h)
              have B46 := Aside0.mk (blk_kept (blk_below B4.out.b hd_) hk_ N4)
              have B86 := Aside0.mk (blk_kept (blk_below B8.out hd_) hk_ N8)
              have HI6 := Aside0.mk hi_
              have HK6 := Aside0.mk ((HKk.out.below hd_).then_ hk_ (fun k h => (ST.mono HAk.out.1 k h).imp id (fun h => by have := HN2.out; have := HLW.out; omega)))
              have HA6 := Aside0.mk (Hat.trans HAk.out.1 ha_ HAk.out.2)
              have HN6 := Aside0.mk (Kd.R_kept (Kd.R_below HNk.out hd_) hk_ (fun k h => LowT.apart HLO.out HAk.out.1 k h))
              have HS6 : Aside0 (n2 ≤ w6.heap.size) := ⟨Nat.le_trans HAk.out.2 hk_.1⟩
              clear hi_ hk_ ha_ hd_ N4 N8
              refine hK.out _ _ ?_
              clear hK K
              refine norm_ (a' := ?_) ?_ ?_
              rotate_left
              · show Act.put _ (some 80) _ = _
                simp only [Act.put, List.setIfInBounds_toArray, List.set_cons_zero, List.set_cons_succ, i64_w, i32_w]
                rfl
              refine last_ (i := 9) (N := none) #[true, true, true, true, true, true, true, true, true, true] rfl rfl (by kernel_rfl) (by simp) (fun K hK => ?_)
              have x0_ := (blk_cell B46.out 0).trans (rfl : _ = some (.slice Ak nk ck : Value))
              have x1_ := (blk_cell B46.out 1).trans (rfl : _ = some (.slice (some ⟨p.bm, 0, none⟩) p.L.length p.L.length : Value))
              have x2_ := (blk_cell B46.out 2).trans (rfl : _ = some (.int .i64 sk.at_ : Value))
              have x3_ := (blk_cell B46.out 3).trans (rfl : _ = some (.int .i64 sk.err : Value))
              have f0_ := blk_frozen B46.out 0
              have f1_ := blk_frozen B46.out 1
              have f2_ := blk_frozen B46.out 2
              have f3_ := blk_frozen B46.out 3
              refine skip_ (w1 := (((w6.setCell ⟨g4, 0, none⟩ (.slice A6 n6 c6)).setCell ⟨g4, 1, none⟩ (.slice (some ⟨p.bm, 0, none⟩) p.L.length p.L.length)).setCell ⟨g4, 2, none⟩ (.int .i64 s6.at_)).setCell ⟨g4, 3, none⟩ (.int .i64 s6.err)) (by rfl) rfl (by go_simp; done) ?_
              clear x0_ x1_ x2_ x3_ f0_ f1_ f2_ f3_
              refine hK.out _ _ ?_
              clear hK K
              refine done_ (by kernel_rfl) ?_

              generalize hw_ : (((w6.setCell ⟨g4, 0, none⟩ (.slice A6 n6 c6)).setCell ⟨g4, 1, none⟩ (.slice (some ⟨p.bm, 0, none⟩) p.L.length p.L.length)).setCell ⟨g4, 2, none⟩ (.int .i64 s6.at_)).setCell ⟨g4, 3, none⟩ (.int .i64 s6.err) = w7
              obtain ⟨hi_, b_⟩ := TI.ret HI6.out B46.out HL4.out.1 _ _ _ _ hw_
              have hk_ := Kept.four HK6.out (by have := HG4.out; omega : w.heap.size ≤ g4) _ _ _ _ hw_
              obtain ⟨r_, e_, z_⟩ := R_four HN6.out B46.out B86.out (by have := HG4.out; have := HG8.out; omega) _ _ _ _ hw_
              clear hw_
              have HI7 := Aside0.mk hi_
              have HK7 := Aside0.mk hk_
              have HN7 := Aside0.mk r_
              have B87 := Aside0.mk e_
              have B47 : Aside0 (WB w7 g4 (.slice A6 n6 c6) p.bm p.L.length s6.at_ s6.err) := ⟨⟨b_⟩⟩
              have HS7 : Aside0 (n2 ≤ w7.heap.size) := ⟨by rw [z_]; exact HS6.out⟩
              clear hi_ hk_ r_ e_ b_ z_ HI6 HK6 HN6 B46 B86
              have HGN : Aside0 ((goL (chGo vs (i + 1)) (xs.take (k + 1)) s1 = (true, s6) ∧ s6.err = 0 ∧ MOk s6.many ∧ s6.out.length ≤ s.out.length + (k + 1) * 4 ^ vs.length) ∨ (q = (false, s6) ∧ s6.err ≠ 0)) := ⟨by
                cases b with
                | false => exact .inr ⟨by rw [← HQ3.out]; exact goL_stop HGG.out hkl (by rw [HXK.out]; exact H6.out), by have h := HYE.out; simpa using h⟩
                | true =>
                  refine .inl ⟨goL_next HGG.out hkl (by rw [HXK.out]; exact H6.out), by have h := HYE.out; simpa using h, HYM.out HMO.out rfl, ?_⟩
                  have h1 := HLE.out
                  have h2 := HYL.out
                  rw [Nat.succ_mul]
                  generalize k * 4 ^ vs.length = a1 at h1 ⊢
                  generalize 4 ^ vs.length = a2 at h2 ⊢
                  omega⟩
              go_wp2
              refine ⟨?_, by simp [intOf]; omega⟩
              exact ⟨k + 1, s6, A6, n6, c6, by omega, by go_num, HGN, HI7, HK7, ⟨HA6.out, HS7.out⟩, HN7, B47, B87⟩
            · obtain rfl : k = xs.length := by omega
              have HQ4 : Aside0 (q = (true, sk)) := ⟨by rw [← HQ3.out]; have h := HGG.out; rw [List.take_length] at h; exact h⟩
              go_upto_region 16 with fail
              clear hz
              have z0_ := (blk_cell B8.out 0).trans (rfl : _ = some (.slice none 0 0 : Value))
              have z1_ := (blk_cell B8.out 1).trans (rfl : _ = some (.slice none 0 0 : Value))
              have z2_ := (blk_cell B8.out 2).trans (rfl : _ = some (.int .i64 0 : Value))
              have z3_ := (blk_cell B8.out 3).trans (rfl : _ = some (.int .i64 0 : Value))
              have k0_ := blk_frozen B8.out 0
              have k1_ := blk_frozen B8.out 1
              have k2_ := blk_frozen B8.out 2
              have k3_ := blk_frozen B8.out 3
              go_wp2
              generalize hw_ : (((wr.setCell ⟨g8, 0, none⟩ (.slice Ak nk ck)).setCell ⟨g8, 1, none⟩ (.slice (some ⟨p.bm, 0, none⟩) p.L.length p.L.length)).setCell ⟨g8, 2, none⟩ (.int .i64 sk.at_)).setCell ⟨g8, 3, none⟩ (.int .i64 sk.err) = w99
              obtain ⟨hi_, b_⟩ := TI.ret HIk.out B8.out HL4.out.2 _ _ _ _ hw_
              have hk_ := Kept.four HKk.out (by have := HG4.out; have := HG8.out; omega : w.heap.size ≤ g8) _ _ _ _ hw_
              clear hw_
              have p0_ : w99.cell? ⟨g8, 0, none⟩ = some (.slice Ak nk ck) := (blk_cell b_ 0).trans rfl
              have p1_ : w99.cell? ⟨g8, 1, none⟩ = some (.slice (some ⟨p.bm, 0, none⟩) p.L.length p.L.length) := (blk_cell b_ 1).trans rfl
              have p2_ : w99.cell? ⟨g8, 2, none⟩ = some (.int .i64 sk.at_) := (blk_cell b_ 2).trans rfl
              have p3_ : w99.cell? ⟨g8, 3, none⟩ = some (.int .i64 sk.err) := (blk_cell b_ 3).trans rfl
              refine bodyPost_ret (v := .agg #[.slice Ak nk ck, .slice (some ⟨p.bm, 0, none⟩) p.L.length p.L.length, .int .i64 sk.at_, .int .i64 sk.err]) (by simp [results, Try.results21, go_sem, p0_, p1_, p2_, p3_]) rfl ?_
              exact TPost.mk HQ4.out _ _ _ hi_ hk_ (Hat.lower HAk.out.1 HLW.out) rfl
          · have HQ4 := Aside0.mk hq
            have hz : (sk.err == 0) = false := by simpa using hne
            clear hq hne HG
            by_cases hkl : k < xs.length
            · go_upto_region 16 with fail
              clear hz
              have z0_ := (blk_cell B8.out 0).trans (rfl : _ = some (.slice none 0 0 : Value))
              have z1_ := (blk_cell B8.out 1).trans (rfl : _ = some (.slice none 0 0 : Value))
              have z2_ := (blk_cell B8.out 2).trans (rfl : _ = some (.int .i64 0 : Value))
              have z3_ := (blk_cell B8.out 3).trans (rfl : _ = some (.int .i64 0 : Value))
              have k0_ := blk_frozen B8.out 0
              have k1_ := blk_frozen B8.out 1
              have k2_ := blk_frozen B8.out 2
              have k3_ := blk_frozen B8.out 3
              go_wp2
              generalize hw_ : (((wr.setCell ⟨g8, 0, none⟩ (.slice Ak nk ck)).setCell ⟨g8, 1, none⟩ (.slice (some ⟨p.bm, 0, none⟩) p.L.length p.L.length)).setCell ⟨g8, 2, none⟩ (.int .i64 sk.at_)).setCell ⟨g8, 3, none⟩ (.int .i64 sk.err) = w99
              obtain ⟨hi_, b_⟩ := TI.ret HIk.out B8.out HL4.out.2 _ _ _ _ hw_
              have hk_ := Kept.four HKk.out (by have := HG4.out; have := HG8.out; omega : w.heap.size ≤ g8) _ _ _ _ hw_
              clear hw_
              have p0_ : w99.cell? ⟨g8, 0, none⟩ = some (.slice Ak nk ck) := (blk_cell b_ 0).trans rfl
              have p1_ : w99.cell? ⟨g8, 1, none⟩ = some (.slice (some ⟨p.bm, 0, none⟩) p.L.length p.L.length) := (blk_cell b_ 1).trans rfl
              have p2_ : w99.cell? ⟨g8, 2, none⟩ = some (.int .i64 sk.at_) := (blk_cell b_ 2).trans rfl
              have p3_ : w99.cell? ⟨g8, 3, none⟩ = some (.int .i64 sk.err) := (blk_cell b_ 3).trans rfl
              refine bodyPost_ret (v := .agg #[.slice Ak nk ck, .slice (some ⟨p.bm, 0, none⟩) p.L.length p.L.length, .int .i64 sk.at_, .int .i64 sk.err]) (by simp [results, Try.results21, go_sem, p0_, p1_, p2_, p3_]) rfl ?_
              exact TPost.mk HQ4.out _ _ _ hi_ hk_ (Hat.lower HAk.out.1 HLW.out) rfl
            · go_upto_region 16 with fail
              clear hz
              have z0_ := (blk_cell B8.out 0).trans (rfl : _ = some (.slice none 0 0 : Value))
              have z1_ := (blk_cell B8.out 1).trans (rfl : _ = some (.slice none 0 0 : Value))
              have z2_ := (blk_cell B8.out 2).trans (rfl : _ = some (.int .i64 0 : Value))
              have z3_ := (blk_cell B8.out 3).trans (rfl : _ = some (.int .i64 0 : Value))
              have k0_ := blk_frozen B8.out 0
              have k1_ := blk_frozen B8.out 1
              have k2_ := blk_frozen B8.out 2
              have k3_ := blk_frozen B8.out 3
              go_wp2
              generalize hw_ : (((wr.setCell ⟨g8, 0, none⟩ (.slice Ak nk ck)).setCell ⟨g8, 1, none⟩ (.slice (some ⟨p.bm, 0, none⟩) p.L.length p.L.length)).setCell ⟨g8, 2, none⟩ (.int .i64 sk.at_)).setCell ⟨g8, 3, none⟩ (.int .i64 sk.err) = w99
              obtain ⟨hi_, b_⟩ := TI.ret HIk.out B8.out HL4.out.2 _ _ _ _ hw_
              have hk_ := Kept.four HKk.out (by have := HG4.out; have := HG8.out; omega : w.heap.size ≤ g8) _ _ _ _ hw_
              clear hw_
              have p0_ : w99.cell? ⟨g8, 0, none⟩ = some (.slice Ak nk ck) := (blk_cell b_ 0).trans rfl
              have p1_ : w99.cell? ⟨g8, 1, none⟩ = some (.slice (some ⟨p.bm, 0, none⟩) p.L.length p.L.length) := (blk_cell b_ 1).trans rfl
              have p2_ : w99.cell? ⟨g8, 2, none⟩ = some (.int .i64 sk.at_) := (blk_cell b_ 2).trans rfl
              have p3_ : w99.cell? ⟨g8, 3, none⟩ = some (.int .i64 sk.err) := (blk_cell b_ 3).trans rfl
              refine bodyPost_ret (v := .agg #[.slice Ak nk ck, .slice (some ⟨p.bm, 0, none⟩) p.L.length p.L.length, .int .i64 sk.at_, .int .i64 sk.err]) (by simp [results, Try.results21, go_sem, p0_, p1_, p2_, p3_]) rfl ?_
              exact TPost.mk HQ4.out _ _ _ hi_ hk_ (Hat.lower HAk.out.1 HLW.out) rfl
    · have hz : (er == 0) = false := by simpa using he
      have hz2 : (er != 0) = true := by simpa using he
      have HQ3 : Aside0 (q = (false, ⟨s.out, s.many.set i m, i, er⟩)) := ⟨by have h := HQ2.out; have hc : (if er = 0 ∧ 10000 < m then (3 : Int) else er) = er := if_neg (fun h => he h.1); rw [hc, if_pos he] at h; exact h.symm⟩
      clear he
      go_upto_region 9 with fail
      clear x1_ cm_ hz hz2
      have x2_ := (blk_cell B4.out 2).trans (rfl : _ = some (.int .i64 s.at_ : Value))
      have f2_ := blk_frozen B4.out 2
      go_upto_region 10 with fail
      clear x2_ f2_
      replace HI := Aside0.mk (TI.mark (HI.out.other B4.out HL4.out.1 2 (.int .i64 (i : Int))) (i : Int) s.err)
      replace HK := Aside0.mk (HK.out.setCell (p := ⟨g4, 2, none⟩) (.inr (show w.heap.size ≤ g4 by have := HG4.out; omega)) (.int .i64 (i : Int)))
      replace B8 := Aside0.mk (blk_far B8.out (p := ⟨g4, 2, none⟩) (show g8 ≠ g4 by have := HG4.out; have := HG8.out; omega) (.int .i64 (i : Int)))
      replace B4 := Aside0.mk (blk_put B4.out 2 (.int .i64 (i : Int)) rfl)
      generalize w5.setCell ⟨g4, 2, none⟩ (.int .i64 (i : Int)) = w6 at HI HK B8 B4 ⊢
      have x3_ := (blk_cell B4.out 3).trans (rfl : _ = some (.int .i64 s.err : Value))
      have f3_ := blk_frozen B4.out 3
      go_upto_region 11 with fail
      clear x3_ f3_
      replace HI := Aside0.mk (TI.mark (HI.out.other B4.out HL4.out.1 3 (.int .i64 er)) (i : Int) er)
      replace HK := Aside0.mk (HK.out.setCell (p := ⟨g4, 3, none⟩) (.inr (show w.heap.size ≤ g4 by have := HG4.out; omega)) (.int .i64 er))
      replace B8 := Aside0.mk (blk_far B8.out (p := ⟨g4, 3, none⟩) (show g8 ≠ g4 by have := HG4.out; have := HG8.out; omega) (.int .i64 er))
      replace B4 := Aside0.mk (blk_put B4.out 3 (.int .i64 er) rfl)
      generalize w6.setCell ⟨g4, 3, none⟩ (.int .i64 er) = w7 at HI HK B8 B4 ⊢
      have x0_ := (blk_cell B4.out 0).trans (rfl : _ = some (.slice Ao no co : Value))
      have x1_ := (blk_cell B4.out 1).trans (rfl : _ = some (.slice (some ⟨p.bm, 0, none⟩) p.L.length p.L.length : Value))
      have x2_ := (blk_cell B4.out 2).trans (rfl : _ = some (.int .i64 (i : Int) : Value))
      have x3_ := (blk_cell B4.out 3).trans (rfl : _ = some (.int .i64 er : Value))
      have z0_ := (blk_cell B8.out 0).trans (rfl : _ = some (.slice none 0 0 : Value))
      have z1_ := (blk_cell B8.out 1).trans (rfl : _ = some (.slice none 0 0 : Value))
      have z2_ := (blk_cell B8.out 2).trans (rfl : _ = some (.int .i64 0 : Value))
      have z3_ := (blk_cell B8.out 3).trans (rfl : _ = some (.int .i64 0 : Value))
      have k0_ := blk_frozen B8.out 0
      have k1_ := blk_frozen B8.out 1
      have k2_ := blk_frozen B8.out 2
      have k3_ := blk_frozen B8.out 3
      go_wp2
      generalize hw_ : (((w7.setCell ⟨g8, 0, none⟩ (.slice Ao no co)).setCell ⟨g8, 1, none⟩ (.slice (some ⟨p.bm, 0, none⟩) p.L.length p.L.length)).setCell ⟨g8, 2, none⟩ (.int .i64 (i : Int))).setCell ⟨g8, 3, none⟩ (.int .i64 er) = w99
      obtain ⟨hi_, b_⟩ := TI.ret HI.out B8.out HL4.out.2 _ _ _ _ hw_
      have hk_ := Kept.four HK.out (by have := HG4.out; have := HG8.out; omega : w.heap.size ≤ g8) _ _ _ _ hw_
      clear hw_
      have p0_ : w99.cell? ⟨g8, 0, none⟩ = some (.slice Ao no co) := (blk_cell b_ 0).trans rfl
      have p1_ : w99.cell? ⟨g8, 1, none⟩ = some (.slice (some ⟨p.bm, 0, none⟩) p.L.length p.L.length) := (blk_cell b_ 1).trans rfl
      have p2_ : w99.cell? ⟨g8, 2, none⟩ = some (.int .i64 (i : Int)) := (blk_cell b_ 2).trans rfl
      have p3_ : w99.cell? ⟨g8, 3, none⟩ = some (.int .i64 er) := (blk_cell b_ 3).trans rfl
      refine bodyPost_ret (v := .agg #[.slice Ao no co, .slice (some ⟨p.bm, 0, none⟩) p.L.length p.L.length, .int .i64 (i : Int), .int .i64 er]) (by simp [results, Try.results21, go_sem, p0_, p1_, p2_, p3_]) rfl ?_
      exact TPost.mk HQ3.out _ _ _ hi_ hk_ (Hat.refl _ _) rfl
end Go.Proofs.Ythkilejcddgodaa.Ex
