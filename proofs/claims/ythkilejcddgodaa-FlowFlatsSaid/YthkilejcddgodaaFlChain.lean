/- flow.Chain: a closure that calls itself. -/
import Derived.Test.YthkilejcddgodaaFlChP
namespace Go.Proofs.Ythkilejcddgodaa.Ex
open Go Go.RowKit Go.Proofs.YthkilejcddgodaaW.PrintWords Go.Proofs.YthkilejcddgodaaW.PrintLast Go.Proofs.YthkilejcddgodaaW.PrintMore
attribute [local go_sem] max2_int min2_int max_two min_two max_three min_three max_four min_four
set_option linter.unusedVariables false
set_option linter.unusedSimpArgs false
theorem flApply_ok (v : Vx) (r : Rc) (A1 : Option Addr) (c1 : Nat) (A4 : Option Addr) (c4 : Nat) (w : World) (l1 : v.f1.length ≤ c1) (r1 : Kd.C (Kd.int .i64) w A1 v.f1.length v.f1) (l4 : v.f2.f2.length ≤ c4) (r4 : Kd.C k25 w A4 v.f2.f2.length v.f2.f2) (xs : List Rc) (er : Int) (hap : apOf v.f0 v.f2 r = (xs, er)) :
    Calls Try.prog 11 #[.agg #[.int .i64 v.f0, .slice A1 v.f1.length c1, .int .i64 v.f2.f0, .int .i64 v.f2.f1, .slice A4 v.f2.f2.length c4, .int .i64 v.f3], .agg #[.int .i64 r.f0, .int .i64 r.f1, .int .i64 r.f2]] w fun e w' => ∃ v0_ : Value, e = .returned (.tuple #[v0_, .int .i64 er]) ∧ Kd.R k29 29 w' w.heap.size (fun _ => True) v0_ xs ∧ Below w.heap.size w w' := by
  obtain ⟨k, hk⟩ := Ev.rounds (apply_ev v.f0 v.f1 v.f2 v.f3 r)
  rw [hap] at hk
  exact flow_Apply.calls k _ A1 c1 _ _ _ A4 c4 _ _ _ _ _ _ _ w r1 l1 r4 l4 hk
theorem stronger_ {P : Program} {ops : Array Oper} {Q : Exit → Act → World → Prop} {md : Region.Mode} {S : World → Prop} (S' : World → Prop) (hS : ∀ w, S' w → S w) : ∀ {fuel : Nat} {l : Array Bool} {a : Act} {w : World},
    S' w → wpAnyLast P md ops Q S' [] fuel l a w → wpAnyLast P md ops Q S [] fuel l a w
  | 0, _, _, _, _, h => h
  | fuel + 1, l, a, w, h0, h => ⟨h.1, fun i hi => wpOp_mono (fun a' w' h' => ⟨fun hn _ => hS w' (h'.1 hn h0), stronger_ S' hS (h'.1 (by simp) h0) h'.2⟩) (h.2 i hi)⟩
/-- Where the closure's variables are. -/
structure CP where
  w0 : World
  A0 : Option Addr
  c0 : Nat
  L : List Vx
  b2 : Nat
  b7 : Nat
  b8 : Nat
  b9 : Nat
  b10 : Nat
  b11 : Nat
  bm : Nat
structure CI (p : CP) (w : World) (s : CS) (vo : Value) : Prop where
  hb : Below p.w0.heap.size p.w0 w
  h2 : w.heap[p.b2]? = some (.cells #[.slice p.A0 p.L.length p.c0] 40 (0, 0))
  h7 : w.heap[p.b7]? = some (.cells #[vo] 32 (0, 0))
  h8 : w.heap[p.b8]? = some (.cells #[.slice (some ⟨p.bm, 0, none⟩) p.L.length p.L.length] 22 (0, 0))
  hm : w.heap[p.bm]? = some (.cells (nums .i64 s.many).toArray 3 (0, 0))
  h9 : w.heap[p.b9]? = some (.cells #[.int .i64 s.at_] 3 (0, 0))
  h10 : w.heap[p.b10]? = some (.cells #[.int .i64 s.err] 33 (0, 0))
  h11 : w.heap[p.b11]? = some (.cells #[.func (.func 20) #[] #[.pointer (some ⟨p.b2, 0, none⟩), .pointer (some ⟨p.b7, 0, none⟩), .pointer (some ⟨p.b8, 0, none⟩), .pointer (some ⟨p.b9, 0, none⟩), .pointer (some ⟨p.b10, 0, none⟩), .pointer (some ⟨p.b11, 0, none⟩)]] 57 (0, 0))
  hv : Kd.R k29 29 w p.w0.heap.size (fun _ => True) vo s.out
  n9 : p.bm ≠ p.b9
  hl : s.many.length = p.L.length
  l7 : p.w0.heap.size ≤ p.b7
  l9 : p.w0.heap.size ≤ p.b9
  l10 : p.w0.heap.size ≤ p.b10
  lm : p.w0.heap.size ≤ p.bm
/-- What a call may write. -/
def SS (p : CP) (vo : Value) (k : Nat) : Prop := k = p.b7 ∨ k = p.b9 ∨ k = p.b10 ∨ k = p.bm ∨ some k = vo.ownBlock
def Hat (vo v : Value) (n : Nat) : Prop := v.ownBlock = vo.ownBlock ∨ ∃ b, v.ownBlock = some b ∧ n ≤ b
theorem Hat.refl (vo : Value) (n : Nat) : Hat vo vo n := .inl rfl
theorem Hat.trans {vo v v2 : Value} {n n1 : Nat} (h : Hat vo v n) (k : Hat v v2 n1) (hs : n ≤ n1) : Hat vo v2 n := by
  rcases k with k | ⟨b, k, hb⟩
  · rcases h with h | ⟨b, h, hb⟩
    · exact .inl (k.trans h)
    · exact .inr ⟨b, k.trans h, hb⟩
  · exact .inr ⟨b, k, by omega⟩
theorem Hat.lower {vo v : Value} {n m : Nat} (h : Hat vo v n) (hm : m ≤ n) : Hat vo v m := by
  rcases h with h | ⟨b, h, hb⟩
  · exact .inl h
  · exact .inr ⟨b, h, by omega⟩
theorem SS.mono {p : CP} {vo v : Value} {n : Nat} (h : Hat vo v n) (k : Nat) (hk : SS p v k) : SS p vo k ∨ n ≤ k := by
  rcases hk with h1 | h1 | h1 | h1 | h1
  · exact .inl (.inl h1)
  · exact .inl (.inr (.inl h1))
  · exact .inl (.inr (.inr (.inl h1)))
  · exact .inl (.inr (.inr (.inr (.inl h1))))
  · rcases h with h | ⟨b, h, hb⟩
    · exact .inl (.inr (.inr (.inr (.inr (h1.trans h)))))
    · rw [h] at h1
      injection h1 with h1
      exact .inr (by omega)
theorem CI.below {p : CP} {w w1 : World} {s : CS} {vo : Value} (h : CI p w s vo) (hb : Below w.heap.size w w1) : CI p w1 s vo :=
  ⟨below_step h.hb hb, blk_below h.h2 hb, blk_below h.h7 hb, blk_below h.h8 hb, blk_below h.hm hb, blk_below h.h9 hb, blk_below h.h10 hb, blk_below h.h11 hb, Kd.R_below h.hv hb, h.n9, h.hl, h.l7, h.l9, h.l10, h.lm⟩
theorem nums_set (k : IntKind) (xs : List Int) (i : Nat) (x : Int) : (nums k xs).toArray.setIfInBounds i (.int k x) = (nums k (xs.set i x)).toArray := by
  simp [nums, List.map_set]
theorem nums_at (k : IntKind) (xs : List Int) (i : Nat) (h : i < xs.length) : (nums k xs).toArray[i]? = some (.int k (xs.getD i 0)) := by
  simp [nums, h]
theorem CI.count {p : CP} {w : World} {s : CS} {vo : Value} (h : CI p w s vo) (i : Nat) (m : Int) : CI p (w.setCell ⟨p.bm, i, none⟩ (.int .i64 m)) ⟨s.out, s.many.set i m, s.at_, s.err⟩ vo :=
  ⟨below_set h.hb h.lm, blk_far h.h2 (p := ⟨p.bm, i, none⟩) (blk_ne h.h2 h.hm (by decide)) _, blk_far h.h7 (p := ⟨p.bm, i, none⟩) (blk_ne h.h7 h.hm (by decide)) _, blk_far h.h8 (p := ⟨p.bm, i, none⟩) (blk_ne h.h8 h.hm (by decide)) _,
   blk_put h.hm i _ (nums_set _ _ _ _), blk_far h.h9 (p := ⟨p.bm, i, none⟩) h.n9.symm _, blk_far h.h10 (p := ⟨p.bm, i, none⟩) (blk_ne h.h10 h.hm (by decide)) _, blk_far h.h11 (p := ⟨p.bm, i, none⟩) (blk_ne h.h11 h.hm (by decide)) _,
   Kd.R_set h.hv h.hm (by decide) i _, h.n9, by simpa using h.hl, h.l7, h.l9, h.l10, h.lm⟩
theorem CI.at9 {p : CP} {w : World} {s : CS} {vo : Value} (h : CI p w s vo) (m : Int) : CI p (w.setCell ⟨p.b9, 0, none⟩ (.int .i64 m)) ⟨s.out, s.many, m, s.err⟩ vo :=
  ⟨below_set h.hb h.l9, blk_far h.h2 (p := ⟨p.b9, 0, none⟩) (blk_ne h.h2 h.h9 (by decide)) _, blk_far h.h7 (p := ⟨p.b9, 0, none⟩) (blk_ne h.h7 h.h9 (by decide)) _, blk_far h.h8 (p := ⟨p.b9, 0, none⟩) (blk_ne h.h8 h.h9 (by decide)) _,
   blk_far h.hm (p := ⟨p.b9, 0, none⟩) h.n9 _, blk_put h.h9 0 _ rfl, blk_far h.h10 (p := ⟨p.b9, 0, none⟩) (blk_ne h.h10 h.h9 (by decide)) _, blk_far h.h11 (p := ⟨p.b9, 0, none⟩) (blk_ne h.h11 h.h9 (by decide)) _,
   Kd.R_set h.hv h.h9 (by decide) 0 _, h.n9, h.hl, h.l7, h.l9, h.l10, h.lm⟩
theorem CI.at10 {p : CP} {w : World} {s : CS} {vo : Value} (h : CI p w s vo) (m : Int) : CI p (w.setCell ⟨p.b10, 0, none⟩ (.int .i64 m)) ⟨s.out, s.many, s.at_, m⟩ vo :=
  ⟨below_set h.hb h.l10, blk_far h.h2 (p := ⟨p.b10, 0, none⟩) (blk_ne h.h2 h.h10 (by decide)) _, blk_far h.h7 (p := ⟨p.b10, 0, none⟩) (blk_ne h.h7 h.h10 (by decide)) _, blk_far h.h8 (p := ⟨p.b10, 0, none⟩) (blk_ne h.h8 h.h10 (by decide)) _,
   blk_far h.hm (p := ⟨p.b10, 0, none⟩) (blk_ne h.hm h.h10 (by decide)) _, blk_far h.h9 (p := ⟨p.b10, 0, none⟩) (blk_ne h.h9 h.h10 (by decide)) _, blk_put h.h10 0 _ rfl, blk_far h.h11 (p := ⟨p.b10, 0, none⟩) (blk_ne h.h11 h.h10 (by decide)) _,
   Kd.R_set h.hv h.h10 (by decide) 0 _, h.n9, h.hl, h.l7, h.l9, h.l10, h.lm⟩
/-- A record more. -/
theorem CI.push {p : CP} {w w1 : World} {s : CS} {vo v : Value} {r : Rc} (h : CI p w s vo) (ho : Kd.R k29 29 w1 p.w0.heap.size (fun _ => True) v (s.out ++ [r])) (hb : Below p.w0.heap.size p.w0 w1) (hg : w.grownBy w1 vo.ownBlock) :
    CI p (w1.setCell ⟨p.b7, 0, none⟩ v) ⟨s.out ++ [r], s.many, s.at_, s.err⟩ v := by
  have g2 := blk_grown h.h2 hg (Kd.R_ne h.hv h.h2 (by decide))
  have g7 := blk_grown h.h7 hg (Kd.R_ne h.hv h.h7 (by decide))
  have g8 := blk_grown h.h8 hg (Kd.R_ne h.hv h.h8 (by decide))
  have gm := blk_grown h.hm hg (Kd.R_ne h.hv h.hm (by decide))
  have g9 := blk_grown h.h9 hg (Kd.R_ne h.hv h.h9 (by decide))
  have g10 := blk_grown h.h10 hg (Kd.R_ne h.hv h.h10 (by decide))
  have g11 := blk_grown h.h11 hg (Kd.R_ne h.hv h.h11 (by decide))
  exact ⟨below_set hb h.l7, blk_far g2 (p := ⟨p.b7, 0, none⟩) (blk_ne g2 g7 (by decide)) _, blk_put g7 0 _ rfl, blk_far g8 (p := ⟨p.b7, 0, none⟩) (blk_ne g8 g7 (by decide)) _, blk_far gm (p := ⟨p.b7, 0, none⟩) (blk_ne gm g7 (by decide)) _,
    blk_far g9 (p := ⟨p.b7, 0, none⟩) (blk_ne g9 g7 (by decide)) _, blk_far g10 (p := ⟨p.b7, 0, none⟩) (blk_ne g10 g7 (by decide)) _, blk_far g11 (p := ⟨p.b7, 0, none⟩) (blk_ne g11 g7 (by decide)) _, Kd.R_set ho g7 (by decide) 0 _, h.n9, h.hl, h.l7, h.l9, h.l10, h.lm⟩
theorem cells6 {w w1 : World} {a0 a1 a2 a3 a4 a5 : Addr} {v0 v1 v2 v3 v4 v5 : Value} (hb : Below w.heap.size w w1) (h : w.cell? a0 = some v0 ∧ w.cell? a1 = some v1 ∧ w.cell? a2 = some v2 ∧ w.cell? a3 = some v3 ∧ w.cell? a4 = some v4 ∧ w.cell? a5 = some v5) :
    w1.cell? a0 = some v0 ∧ w1.cell? a1 = some v1 ∧ w1.cell? a2 = some v2 ∧ w1.cell? a3 = some v3 ∧ w1.cell? a4 = some v4 ∧ w1.cell? a5 = some v5 :=
  ⟨pw_cell_below hb h.1, pw_cell_below hb h.2.1, pw_cell_below hb h.2.2.1, pw_cell_below hb h.2.2.2.1, pw_cell_below hb h.2.2.2.2.1, pw_cell_below hb h.2.2.2.2.2⟩
/-- What lies between B and n is none of what a call may write. -/
def Low (p : CP) (vo : Value) (B : Nat) : Prop := p.b7 < B ∧ p.b9 < B ∧ p.b10 < B ∧ p.bm < B ∧ ∀ k, vo.ownBlock = some k → k < B
theorem CI.low {p : CP} {w : World} {s : CS} {vo : Value} (h : CI p w s vo) : Low p vo w.heap.size := ⟨blk_lt h.h7, blk_lt h.h9, blk_lt h.h10, blk_lt h.hm, Kd.R_lt h.hv⟩
theorem Low.apart {p : CP} {vo v : Value} {B n : Nat} (h : Low p vo B) (ha : Hat vo v n) (k : Nat) (hk : B ≤ k ∧ k < n) : ¬ SS p v k := by
  obtain ⟨a1, a2, a3, a4, a5⟩ := h
  rintro (h1 | h1 | h1 | h1 | h1)
  · omega
  · omega
  · omega
  · omega
  · rcases ha with ha | ⟨b, ha, hb⟩
    · have := a5 k (ha ▸ h1.symm); omega
    · rw [ha] at h1; injection h1 with h1; omega
def CPost (p : CP) (q : Bool × CS) (vo : Value) (w : World) (e : Ending) (w' : World) : Prop := ∃ v, e = .returned (.bool q.1) ∧ CI p w' q.2 v ∧ Kept w w' (SS p vo) ∧ Hat vo v w.heap.size
theorem CPost.mk {p : CP} {q : Bool × CS} {vo : Value} {w w' : World} {b : Bool} {s : CS} (hq : q = (b, s)) (v : Value) (h : CI p w' s v) (hk : Kept w w' (SS p vo)) (ha : Hat vo v w.heap.size) : CPost p q vo w (.returned (.bool b)) w' := by
  subst hq
  exact ⟨v, rfl, h, hk, ha⟩
set_option maxHeartbeats 8000000 in
set_option maxRecDepth 100000 in
theorem chain1_ok (p : CP) (h8 : p.L.length ≤ 8) (hL : Kd.C k27 p.w0 p.A0 p.L.length p.L) (hc : p.L.length ≤ p.c0) : ∀ (vs : List Vx) (i : Nat) (r : Rc) (s : CS) (vo : Value) (w : World), p.L.drop i = vs → i ≤ p.L.length → CI p w s vo → MOk s.many → s.out.length + 4 ^ vs.length ≤ 200000 →
    Calls Try.prog 20 #[.int .i64 (i : Int), .agg #[.int .i64 r.f0, .int .i64 r.f1, .int .i64 r.f2], .pointer (some ⟨p.b2, 0, none⟩), .pointer (some ⟨p.b7, 0, none⟩), .pointer (some ⟨p.b8, 0, none⟩), .pointer (some ⟨p.b9, 0, none⟩), .pointer (some ⟨p.b10, 0, none⟩), .pointer (some ⟨p.b11, 0, none⟩)] w fun e w' => CPost p (chGo vs i r s) vo w e w' := by
  have H8 := Aside0.mk h8
  have HCL := Aside0.mk hL
  have HC0 := Aside0.mk hc
  clear h8 hL hc
  intro vs
  induction vs with
  | nil =>
    intro i r s vo w hd hi hI hM hlen
    obtain rfl : i = p.L.length := by have := List.drop_eq_nil_iff.1 hd; omega
    have HI := Aside0.mk hI
    have HLN : Aside0 (s.out.length + 1 ≤ 200000) := ⟨by simpa using hlen⟩
    clear hd hi hI hM hlen
    have HK := Aside0.mk (Kept.refl w (SS p vo))
    go_enter Try.func20, Try.ntmps20
    go_upto_region 1 with fail
    have BR := Aside0.mk (heap_alloc_new w (.cells #[.int .i64 r.f0, .int .i64 r.f1, .int .i64 r.f2] 29))
    have hb_ := below_alloc (Below.refl w.heap.size w) (.cells #[.int .i64 r.f0, .int .i64 r.f1, .int .i64 r.f2] 29)
    generalize w.alloc (.cells #[.int .i64 r.f0, .int .i64 r.f1, .int .i64 r.f2] 29) = w1 at BR hb_ ⊢
    generalize w.heap.size = g9 at BR ⊢
    replace HI := Aside0.mk (HI.out.below hb_)
    replace HK := Aside0.mk (HK.out.below hb_)
    clear hb_
    have c2_ := (blk_cell HI.out.h2 0).trans (rfl : _ = some (.slice p.A0 p.L.length p.c0 : Value))
    go_upto_region 2 with fail
    clear c2_
    have c7o_ := (blk_cell HI.out.h7 0).trans (rfl : _ = some (vo : Value))
    have y0_ := (blk_cell BR.out 0).trans (rfl : _ = some (.int .i64 r.f0 : Value))
    have y1_ := (blk_cell BR.out 1).trans (rfl : _ = some (.int .i64 r.f1 : Value))
    have y2_ := (blk_cell BR.out 2).trans (rfl : _ = some (.int .i64 r.f2 : Value))
    go_wp2_with ((with_reducible refine gate_builtin (b := .append) (xs := #[.tmp 19, .tmp 21]) rfl ?_); at_builtin; refine Kd.R_append k29 (w0 := p.w0) p.w0.heap.size rfl (.tmp 19) (.tmp 21) 32 29 (.agg #[.int .i64 0, .int .i64 0, .int .i64 0]) 24 rfl Try.underlying32 info29 rfl (by decide) (by omega) vo s.out r [.int .i64 r.f0, .int .i64 r.f1, .int .i64 r.f2] (fun _ => True) (fun _ => False) rfl rfl ?aP (fun _ hk => hk.elim) (fun _ _ => trivial) HI.out.hv HI.out.hb HI.out.hb.size ?aL ?_; (case aP => exact k29_mkM _ _ _ r); (case aL => have := HLN.out; omega); intro v1 w2 ho_ hb_ hg_ hat_; obtain ⟨A1_, c1_, hv1_⟩ := Kd.R_slice ho_; obtain ⟨n1_, hn1_⟩ : ∃ n, n = (s.out ++ [r]).length := ⟨_, rfl⟩; rw [← hn1_] at hv1_; subst hv1_; clear hn1_; have b7_ := blk_grown HI.out.h7 hg_ (Kd.R_ne HI.out.hv HI.out.h7 (by decide)); have c7_ := (blk_cell b7_ 0).trans (rfl : _ = some (vo : Value)); have f7_ := blk_frozen b7_ 0; have HF := Aside0.mk (CI.push HI.out ho_ hb_ hg_); have HK2 := Aside0.mk ((HK.out.of_grown hg_ (fun k hk => .inl (.inr (.inr (.inr (.inr hk.symm)))))).setCell (p := ⟨p.b7, 0, none⟩) (.inl (.inl rfl)) (.slice A1_ n1_ c1_)); have HA := Aside0.mk (Hat.trans (Hat.refl vo w.heap.size) (show Hat vo (.slice A1_ n1_ c1_) w1.heap.size from hat_) HK.out.1); clear b7_ ho_ hb_ hg_ hat_ c7o_)
    go_ret
    exact CPost.mk rfl _ HF.out HK2.out HA.out
  | cons v vs ih =>
    have IH := Aside0.mk ih
    clear ih
    intro i r s vo w hd hi hI hM hlen
    have hlt : i < p.L.length := by
      by_cases h : i < p.L.length
      · exact h
      · rw [List.drop_eq_nil_of_le (by omega)] at hd; cases hd
    have HI := Aside0.mk hI
    have HM := Aside0.mk hM
    have HLN : Aside0 (s.out.length + 4 ^ (v :: vs).length ≤ 200000) := ⟨hlen⟩
    have hv : p.L.getD i z27 = v := by
      have h1 : p.L.drop i = p.L[i] :: p.L.drop (i + 1) := List.drop_eq_getElem_cons hlt
      rw [hd] at h1
      injection h1 with h1 _
      simp [List.getD, hlt, h1]
    have HD : Aside0 (p.L.drop (i + 1) = vs) := ⟨by
      have h1 : p.L.drop i = p.L[i] :: p.L.drop (i + 1) := List.drop_eq_getElem_cons hlt
      rw [hd] at h1
      injection h1 with _ h1
      exact h1.symm⟩
    have HV := Aside0.mk hv
    obtain ⟨q, HQ⟩ : ∃ q, Aside0 (chGo (v :: vs) i r s = q) := ⟨_, ⟨rfl⟩⟩
    rw [HQ.out]
    obtain ⟨⟨xs, er⟩, HAP⟩ : ∃ ap, Aside0 (apOf v.f0 v.f2 r = ap) := ⟨_, ⟨rfl⟩⟩
    have HXL : Aside0 (xs.length ≤ 4) := ⟨by have := apOf_len v.f0 v.f2 r; rw [HAP.out] at this; exact this⟩
    obtain ⟨ad, A1, c1, A4, c4, HX⟩ : ∃ ad A1 c1 A4 c4, Aside0 (p.A0 = some ad ∧ (p.w0.cell? (ad.add (i * 6)) = some (.int .i64 v.f0) ∧ p.w0.cell? ⟨(ad.add (i * 6)).block, (ad.add (i * 6)).off + 1, none⟩ = some (.slice A1 v.f1.length c1) ∧ p.w0.cell? ⟨(ad.add (i * 6)).block, (ad.add (i * 6)).off + 2, none⟩ = some (.int .i64 v.f2.f0) ∧ p.w0.cell? ⟨(ad.add (i * 6)).block, (ad.add (i * 6)).off + 3, none⟩ = some (.int .i64 v.f2.f1) ∧ p.w0.cell? ⟨(ad.add (i * 6)).block, (ad.add (i * 6)).off + 4, none⟩ = some (.slice A4 v.f2.f2.length c4) ∧ p.w0.cell? ⟨(ad.add (i * 6)).block, (ad.add (i * 6)).off + 5, none⟩ = some (.int .i64 v.f3)) ∧ (v.f1.length ≤ c1 ∧ Kd.C (Kd.int .i64) p.w0 A1 v.f1.length v.f1 ∧ v.f2.f2.length ≤ c4 ∧ Kd.C k25 p.w0 A4 v.f2.f2.length v.f2.f2)) := by
      obtain ⟨ad, A1, c1, A4, c4, e, x0, x1, x2, x3, x4, x5, l1, g1, l4, g4⟩ := at_T27 HCL.out (i : Int) (by omega) (by omega)
      rw [show rd_T27 p.L (i : Int) = v from hv] at x0 x1 x2 x3 x4 x5 l1 g1 l4 g4
      exact ⟨ad, A1, c1, A4, c4, ⟨e, ⟨x0, x1, x2, x3, x4, x5⟩, l1, g1, l4, g4⟩⟩
    have HLT := Aside0.mk hlt
    clear hd hI hM hlen hv
    have HK := Aside0.mk (Kept.refl w (SS p vo))
    go_enter Try.func20, Try.ntmps20
    go_upto_region 1 with fail
    have BR := Aside0.mk (heap_alloc_new w (.cells #[.int .i64 r.f0, .int .i64 r.f1, .int .i64 r.f2] 29))
    have hb_ := below_alloc (Below.refl w.heap.size w) (.cells #[.int .i64 r.f0, .int .i64 r.f1, .int .i64 r.f2] 29)
    generalize w.alloc (.cells #[.int .i64 r.f0, .int .i64 r.f1, .int .i64 r.f2] 29) = w1 at BR hb_ ⊢
    generalize w.heap.size = g9 at BR ⊢
    replace HI := Aside0.mk (HI.out.below hb_)
    replace HK := Aside0.mk (HK.out.below hb_)
    clear hb_
    have c2_ := (blk_cell HI.out.h2 0).trans (rfl : _ = some (.slice p.A0 p.L.length p.c0 : Value))
    have hne : ((i : Int) == (p.L.length : Int)) = false := by simp; omega
    go_upto_region 4 with fail
    clear c2_ hne
    have HLO := Aside0.mk HI.out.low
    have HW1 := Aside0.mk HK.out.1
    refine start_ (n := 11) (S := fun w' => Below w1.heap.size w1 w') (ds := []) #[false, false, false, false, false, false, false, false, false, false, false] (by kernel_rfl) rfl rfl (below_drew (Below.refl _ _)) (fun hHeld => ?_)
    refine pure_ (i := 1) (N := some 25) (v := ?_) (a' := ?_) #[false, true, false, false, false, false, false, false, false, false, false] rfl rfl (by kernel_rfl) (fun _ _ _ h => h) (Or.inl ⟨by rfl, ?_⟩) ?_ ?_
    rotate_left
    · intro w'
      go_simp
      with_reducible rfl
    rotate_left
    · simp only [Act.put, List.setIfInBounds_toArray, List.set_cons_zero, List.set_cons_succ, i64_w, i32_w]
      rfl
    refine take_ (i := 0) (N := some 24) (v := ?_) (a' := ?_) #[true, true, false, false, false, false, false, false, false, false, false] rfl rfl (by kernel_rfl) (fun _ _ _ h => h) (Or.inl ⟨by rfl, ?_⟩) hHeld ?_ ?_
    rotate_left
    · intro w' hS
      have c_ := (blk_cell (blk_below HI.out.h2 hS) 0).trans (congrArg (fun A => some (Value.slice A p.L.length p.c0)) HX.out.1)
      go_simp
      with_reducible rfl
    rotate_left
    · simp only [Act.put, List.setIfInBounds_toArray, List.set_cons_zero, List.set_cons_succ, i64_w, i32_w]
      rfl
    refine pure_ (i := 2) (N := some 26) (v := ?_) (a' := ?_) #[true, true, true, false, false, false, false, false, false, false, false] rfl rfl (by kernel_rfl) (fun _ _ _ h => h) (Or.inl ⟨by rfl, ?_⟩) ?_ ?_
    rotate_left
    · intro w'
      have hlt_ := HLT.out
      go_simp
      with_reducible rfl
    rotate_left
    · simp only [Act.put, List.setIfInBounds_toArray, List.set_cons_zero, List.set_cons_succ, i64_w, i32_w]
      rfl
    refine take_ (i := 3) (N := some 27) (v := ?_) (a' := ?_) #[true, true, true, true, false, false, false, false, false, false, false] rfl rfl (by kernel_rfl) (fun _ _ _ h => h) (Or.inl ⟨by rfl, ?_⟩) hHeld ?_ ?_
    rotate_left
    · intro w' hS
      obtain ⟨x0_, x1_, x2_, x3_, x4_, x5_⟩ := cells6 (below_step HI.out.hb hS) HX.out.2.1
      go_simp
      with_reducible rfl
    rotate_left
    · simp only [Act.put, List.setIfInBounds_toArray, List.set_cons_zero, List.set_cons_succ, i64_w, i32_w]
      rfl
    refine take_ (i := 4) (N := some 28) (v := ?_) (a' := ?_) #[true, true, true, true, true, false, false, false, false, false, false] rfl rfl (by kernel_rfl) (fun _ _ _ h => h) (Or.inl ⟨by rfl, ?_⟩) hHeld ?_ ?_
    rotate_left
    · intro w' hS
      have y0_ := (blk_cell (blk_below BR.out hS) 0).trans (rfl : _ = some (.int .i64 r.f0 : Value))
      have y1_ := (blk_cell (blk_below BR.out hS) 1).trans (rfl : _ = some (.int .i64 r.f1 : Value))
      have y2_ := (blk_cell (blk_below BR.out hS) 2).trans (rfl : _ = some (.int .i64 r.f2 : Value))
      go_simp
      with_reducible rfl
    rotate_left
    · simp only [Act.put, List.setIfInBounds_toArray, List.set_cons_zero, List.set_cons_succ, i64_w, i32_w]
      rfl
    refine one_ (i := 5) (N := some 29) #[true, true, true, true, true, true, false, false, false, false, false] rfl rfl (by kernel_rfl) (by simp) (fun K hK => ?_)
    refine goes_ Try.func11 (by kernel_rfl) rfl #[.agg #[.int .i64 v.f0, .slice A1 v.f1.length c1, .int .i64 v.f2.f0, .int .i64 v.f2.f1, .slice A4 v.f2.f2.length c4, .int .i64 v.f3], .agg #[.int .i64 r.f0, .int .i64 r.f1, .int .i64 r.f2]] (by rfl) rfl rfl (by simp only [List.map_toArray, List.map_cons, List.map_nil]; rfl) ?_
    with_reducible refine (flApply_ok v r A1 c1 A4 c4 _ HX.out.2.2.1 (Kd.C_below HX.out.2.2.2.1 (below_drew HI.out.hb)) HX.out.2.2.2.2.1 (Kd.C_below HX.out.2.2.2.2.2 (below_drew HI.out.hb)) xs er HAP.out).mono ?_
    rintro e w2 ⟨v1, rfl, hr_, hb_⟩
    refine ⟨_, rfl, ?_⟩
    obtain ⟨An, cn, rfl⟩ := Kd.R_slice hr_
    replace hb_ := below_step hHeld hb_
    refine hK.out _ _ hb_ (fun _ => ?_)
    clear hK K hHeld
    refine norm_ (a' := ?_) ?_ ?_
    rotate_left
    · show Act.put _ (some 29) _ = _
      simp only [Act.put, List.setIfInBounds_toArray, List.set_cons_zero, List.set_cons_succ, i64_w, i32_w]
      rfl
    refine stronger_ (S' := fun w' => Below w2.heap.size w2 w') (fun w' h => below_step hb_ h) (Below.refl _ _) ?_
    have hHeld := Below.refl w2.heap.size w2
    have HN := Aside0.mk hr_
    clear hr_
    replace HI := Aside0.mk (HI.out.below hb_)
    replace HK := Aside0.mk (HK.out.below hb_)
    clear hb_
    refine pure_ (i := 6) (N := some 23) (v := ?_) (a' := ?_) #[true, true, true, true, true, true, true, false, false, false, false] rfl rfl (by kernel_rfl) (fun _ _ _ h => h) (Or.inl ⟨by rfl, ?_⟩) ?_ ?_
    rotate_left
    · intro w'
      go_simp
      with_reducible rfl
    rotate_left
    · simp only [Act.put, List.setIfInBounds_toArray, List.set_cons_zero, List.set_cons_succ, i64_w, i32_w]
      rfl
    refine pure_ (i := 7) (N := some 30) (v := ?_) (a' := ?_) #[true, true, true, true, true, true, true, true, false, false, false] rfl rfl (by kernel_rfl) (fun _ _ _ h => h) (Or.inl ⟨by rfl, ?_⟩) ?_ ?_
    rotate_left
    · intro w'
      go_simp
      with_reducible rfl
    rotate_left
    · simp only [Act.put, List.setIfInBounds_toArray, List.set_cons_zero, List.set_cons_succ, i64_w, i32_w]
      rfl
    refine pure_ (i := 8) (N := some 31) (v := ?_) (a' := ?_) #[true, true, true, true, true, true, true, true, true, false, false] rfl rfl (by kernel_rfl) (fun _ _ _ h => h) (Or.inl ⟨by rfl, ?_⟩) ?_ ?_
    rotate_left
    · intro w'
      go_simp
      with_reducible rfl
    rotate_left
    · simp only [Act.put, List.setIfInBounds_toArray, List.set_cons_zero, List.set_cons_succ, i64_w, i32_w]
      rfl
    refine pure_ (i := 9) (N := some 11) (v := ?_) (a' := ?_) #[true, true, true, true, true, true, true, true, true, true, false] rfl rfl (by kernel_rfl) (fun _ _ _ h => h) (Or.inl ⟨by rfl, ?_⟩) ?_ ?_
    rotate_left
    · intro w'
      go_simp
      with_reducible rfl
    rotate_left
    · simp only [Act.put, List.setIfInBounds_toArray, List.set_cons_zero, List.set_cons_succ, i64_w, i32_w]
      rfl
    refine pure_ (i := 10) (N := some 12) (v := ?_) (a' := ?_) #[true, true, true, true, true, true, true, true, true, true, true] rfl rfl (by kernel_rfl) (fun _ _ _ h => h) (Or.inl ⟨by rfl, ?_⟩) ?_ ?_
    rotate_left
    · intro w'
      go_simp
      with_reducible rfl
    rotate_left
    · simp only [Act.put, List.setIfInBounds_toArray, List.set_cons_zero, List.set_cons_succ, i64_w, i32_w]
      rfl
    refine done_ (by kernel_rfl) ?_

    have HSW := Aside0.mk (Kept.refl w2 (SS p vo)).1
    have hlt_ := HLT.out
    have hxl_ := HXL.out
    have h8_ := H8.out
    obtain ⟨m0, HM0⟩ : ∃ m, Aside0 (s.many.getD i 0 = m) := ⟨_, ⟨rfl⟩⟩
    have hm_ := HM.out.get i
    rw [HM0.out] at hm_
    have hm0_ := hm_.1
    have hm1_ := hm_.2
    clear hm_
    have c8_ := (blk_cell HI.out.h8 0).trans (rfl : _ = some (.slice (some ⟨p.bm, 0, none⟩) p.L.length p.L.length : Value))
    have cm_ := (blk_cell HI.out.hm i).trans (nums_at _ _ _ (by rw [HI.out.hl]; exact HLT.out))
    rw [HM0.out] at cm_
    have fm_ := blk_frozen HI.out.hm i
    go_upto_region 6 with fail
    replace HN := Aside0.mk (Kd.R_set HN.out HI.out.hm (by decide) i (.int .i64 (m0 + (xs.length : Int))))
    replace HK := Aside0.mk (HK.out.setCell (p := ⟨p.bm, i, none⟩) (.inl (.inr (.inr (.inr (.inl rfl))))) (.int .i64 (m0 + (xs.length : Int))))
    replace HI := Aside0.mk (HI.out.count i (m0 + (xs.length : Int)))
    have HS2 : Aside0 ((w2.setCell ⟨p.bm, i, none⟩ (.int .i64 (m0 + (xs.length : Int)))).heap.size = w2.heap.size) := ⟨by simp⟩
    clear c8_ cm_ fm_
    generalize w2.setCell ⟨p.bm, i, none⟩ (.int .i64 (m0 + (xs.length : Int))) = w3 at HN HK HI HS2 ⊢
    obtain ⟨m, HMM⟩ : ∃ m, Aside0 (m0 + (xs.length : Int) = m) := ⟨_, ⟨rfl⟩⟩
    rw [HMM.out] at HI
    have HC : Aside0 (cntOf v i r s = m) := ⟨by unfold cntOf; rw [HAP.out, HM0.out]; exact HMM.out⟩
    have HE : Aside0 (errOf v i r s = if er = 0 ∧ 10000 < m then 3 else er) := ⟨by unfold errOf; rw [HC.out, HAP.out]⟩
    have HQ2 : Aside0 ((if (if er = 0 ∧ 10000 < m then 3 else er) ≠ 0 then (false, (⟨s.out, s.many.set i m, i, if er = 0 ∧ 10000 < m then 3 else er⟩ : CS)) else goL (chGo vs (i + 1)) xs ⟨s.out, s.many.set i m, s.at_, s.err⟩) = q) := ⟨by rw [← HQ.out, chGo, HE.out, HC.out, HAP.out]⟩
    have HMR : Aside0 (0 ≤ m) := ⟨by have := HMM.out; omega⟩
    clear HC HE HQ hm0_ hm1_
    have c8_ := (blk_cell HI.out.h8 0).trans (rfl : _ = some (.slice (some ⟨p.bm, 0, none⟩) p.L.length p.L.length : Value))
    have cm_ := (blk_cell HI.out.hm i).trans (nums_at _ _ _ (by have h1 := HI.out.hl; simp only at h1 ⊢; rw [h1]; exact HLT.out))
    have hset_ : (s.many.set i m).getD i 0 = m := by have h1 := HI.out.hl; simp only [List.length_set] at h1; simp [List.getD, h1, HLT.out]
    simp only [hset_] at cm_
    clear hset_
    by_cases he : er = 0
    · subst he
      by_cases hm : 10000 < m
      · have hmt : decide (10000 < m) = true := by simpa using hm
        have HQ3 : Aside0 (q = (false, ⟨s.out, s.many.set i m, i, 3⟩)) := ⟨by have h := HQ2.out; have hc : (if (0 : Int) = 0 ∧ 10000 < m then (3 : Int) else 0) = 3 := if_pos ⟨rfl, hm⟩; rw [hc, if_pos (by decide)] at h; exact h.symm⟩
        go_upto_region 9 with fail
        clear c8_ cm_ hmt
        have HI9 := Aside0.mk (HI.out.at9 (i : Int))
        have HF := Aside0.mk (HI9.out.at10 3)
        have HK2 := Aside0.mk ((HK.out.setCell (p := ⟨p.b9, 0, none⟩) (.inl (.inr (.inl rfl))) (.int .i64 (i : Int))).setCell (p := ⟨p.b10, 0, none⟩) (.inl (.inr (.inr (.inl rfl)))) (.int .i64 3))
        have c9_ := (blk_cell HI.out.h9 0).trans (rfl : _ = some (.int .i64 s.at_ : Value))
        have f9_ := blk_frozen HI.out.h9 0
        have c10_ := (blk_cell HI9.out.h10 0).trans (rfl : _ = some (.int .i64 s.err : Value))
        have f10_ := blk_frozen HI9.out.h10 0
        go_wp2
        go_ret
        exact CPost.mk HQ3.out _ HF.out HK2.out (Hat.refl _ _)
      · have hmt : decide (10000 < m) = false := by simpa using hm
        have HQ3 : Aside0 (goL (chGo vs (i + 1)) xs ⟨s.out, s.many.set i m, s.at_, s.err⟩ = q) := ⟨by have h := HQ2.out; have hc : (if (0 : Int) = 0 ∧ 10000 < m then (3 : Int) else 0) = 0 := if_neg (fun h => hm h.2); rw [hc, if_neg (by decide)] at h; exact h⟩
        have HMO : Aside0 (MOk (s.many.set i m)) := ⟨HM.out.set i HMR.out (by omega)⟩
        clear HQ2
        go_upto_region 11 with fail
        clear c8_ cm_ hmt hm
        obtain ⟨s1, HS1⟩ : ∃ s1 : CS, Aside0 (s1 = ⟨s.out, s.many.set i m, s.at_, s.err⟩) := ⟨_, ⟨rfl⟩⟩
        have HSO : Aside0 (s1.out = s.out) := ⟨by rw [HS1.out]⟩
        rw [← HS1.out] at HQ3 HI
        have HMO1 : Aside0 (MOk s1.many) := ⟨by rw [HS1.out]; exact HMO.out⟩
        clear HMO HS1
        obtain ⟨n2, HN2⟩ : ∃ n, Aside0 (w2.heap.size = n) := ⟨_, ⟨rfl⟩⟩
        have HLW : Aside0 (w.heap.size ≤ n2) := ⟨by have := HK.out.1; rw [HS2.out, HN2.out] at this; exact this⟩
        have HNX := Aside0.mk (Kd.R_mono (ok' := fun k => w1.heap.size ≤ k ∧ k < n2) (Kd.R_bound HN.out) (fun k hk => ⟨hk.2.1, by have h1 := hk.2.2.1; rw [HS2.out, HN2.out] at h1; exact h1⟩))
        clear HN
        go_wp2_with fail
        go_loopw [55] (fun v55 wr => ∃ (k : Nat) (sk : CS) (vk : Value), k ≤ xs.length ∧ v55 = .int .i64 (k : Int) ∧ Aside0 (goL (chGo vs (i + 1)) (xs.take k) s1 = (true, sk)) ∧ Aside0 (CI p wr sk vk) ∧ Aside0 (Kept w wr (SS p vo)) ∧ Aside0 (Hat vo vk n2 ∧ n2 ≤ wr.heap.size) ∧ Aside0 (Kd.R k29 29 wr w1.drew.heap.size (fun k => w1.heap.size ≤ k ∧ k < n2) (.slice An xs.length cn) xs) ∧ Aside0 (MOk sk.many ∧ sk.out.length ≤ s.out.length + k * 4 ^ vs.length)) (fun v55 _ => xs.length - (intOf v55).toNat)
        case atStart => exact ⟨0, s1, vo, by omega, rfl, ⟨rfl⟩, HI, HK, ⟨Hat.refl _ _, by rw [HS2.out, HN2.out]; exact Nat.le_refl _⟩, HNX, ⟨HMO1.out, by rw [HSO.out]; omega⟩⟩
        case round =>
          clear HI HK HNX HMO1
          obtain ⟨k, sk, vk, hk, rfl, HG, HIk, HKk, HAk, HNk, HMk⟩ := hrel
          by_cases hkl : k < xs.length
          · obtain ⟨ad2, hA2, y0, y1, y2⟩ := at_T29 (Kd.R_reads' HNk.out).2.2 (k : Int) (by omega) (by omega)
            obtain ⟨x, HX2⟩ : ∃ x, Aside0 (rd_T29 xs (k : Int) = x) := ⟨_, ⟨rfl⟩⟩
            have HXK : Aside0 (xs[k] = x) := ⟨by rw [← HX2.out]; unfold rd_T29; simp [List.getD, hkl]⟩
            rw [HX2.out] at y0 y1 y2
            simp only [Int.toNat_natCast] at y0 y1 y2
            subst hA2
            go_upto_region 14 with fail
            clear y0 y1 y2
            have BX := Aside0.mk (heap_alloc_new wr (.cells #[.int .i64 x.f0, .int .i64 x.f1, .int .i64 x.f2] 29))
            have hb_ := below_alloc (Below.refl wr.heap.size wr) (.cells #[.int .i64 x.f0, .int .i64 x.f1, .int .i64 x.f2] 29)
            generalize wr.alloc (.cells #[.int .i64 x.f0, .int .i64 x.f1, .int .i64 x.f2] 29) = w5 at BX hb_ ⊢
            have HS5 : Aside0 (n2 ≤ w5.heap.size) := ⟨Nat.le_trans HAk.out.2 hb_.size⟩
            generalize wr.heap.size = g14 at BX ⊢
            replace HIk := Aside0.mk (HIk.out.below hb_)
            replace HKk := Aside0.mk (HKk.out.below hb_)
            replace HNk := Aside0.mk (Kd.R_below HNk.out hb_)
            clear hb_
            have c11_ := (blk_cell HIk.out.h11 0).trans (rfl : _ = some (.func (.func 20) #[] #[.pointer (some ⟨p.b2, 0, none⟩), .pointer (some ⟨p.b7, 0, none⟩), .pointer (some ⟨p.b8, 0, none⟩), .pointer (some ⟨p.b9, 0, none⟩), .pointer (some ⟨p.b10, 0, none⟩), .pointer (some ⟨p.b11, 0, none⟩)] : Value))
            have z0_ := (blk_cell BX.out 0).trans (rfl : _ = some (.int .i64 x.f0 : Value))
            have z1_ := (blk_cell BX.out 1).trans (rfl : _ = some (.int .i64 x.f1 : Value))
            have z2_ := (blk_cell BX.out 2).trans (rfl : _ = some (.int .i64 x.f2 : Value))
            go_wp2_with fail
            rw [show ((i : Int) + 1) = ((i + 1 : Nat) : Int) from by omega]
            refine (IH.out (i + 1) x sk vk _ HD.out (by omega) HIk.out HMk.out.1 (by
              have h1 := HMk.out.2
              have h2 := HLN.out
              rw [List.length_cons, Nat.pow_succ] at h2
              have h3 : (k + 1) * 4 ^ vs.length ≤ 4 * 4 ^ vs.length := Nat.mul_le_mul_right _ (by omega)
              rw [Nat.succ_mul] at h3
              rw [Nat.mul_comm (4 ^ vs.length) 4] at h2
              generalize k * 4 ^ vs.length = a1 at h1 h3
              generalize 4 ^ vs.length = a2 at h2 h3 ⊢
              omega)).mono ?_
            rintro e w6 ⟨v6, rfl, hi_, hk_, ha_⟩
            have HMY := Aside0.mk (chGo_many vs (i + 1) x sk sk.many.length rfl).2
            have HLE := Aside0.mk (chGo_len vs (i + 1) x sk)
            obtain ⟨⟨b, s6⟩, H6⟩ : ∃ q, Aside0 (chGo vs (i + 1) x sk = q) := ⟨_, ⟨rfl⟩⟩
            rw [H6.out] at HMY HLE hi_ ⊢
            simp only at HMY HLE hi_ ⊢
            have HI6 := Aside0.mk hi_
            have HK6 := Aside0.mk (HKk.out.then_ hk_ (fun k h => (SS.mono HAk.out.1 k h).imp id (fun h => by have := HN2.out; have := HLW.out; omega)))
            have HA6 := Aside0.mk (Hat.trans HAk.out.1 ha_ HS5.out)
            have HN6 := Aside0.mk (Kd.R_kept HNk.out hk_ (fun k h => Low.apart HLO.out HAk.out.1 k h))
            have HS6 : Aside0 (n2 ≤ w6.heap.size) := ⟨Nat.le_trans HS5.out hk_.1⟩
            clear hi_ hk_ ha_ c11_ z0_ z1_ z2_
            cases b with
            | false =>
              have HQ4 : Aside0 (q = (false, s6)) := ⟨by rw [← HQ3.out]; exact goL_stop HG.out hkl (by rw [HXK.out]; exact H6.out)⟩
              go_wp2
              go_ret
              exact CPost.mk HQ4.out _ HI6.out HK6.out (Hat.lower HA6.out HLW.out)
            | true =>
              have HG6 := Aside0.mk (goL_next HG.out hkl (by rw [HXK.out]; exact H6.out))
              go_wp2
              refine ⟨?_, by simp [intOf]; omega⟩
              exact ⟨k + 1, s6, v6, by omega, by go_num, HG6, HI6, HK6, ⟨HA6.out, HS6.out⟩, HN6, ⟨HMY.out HMk.out.1 rfl, by
                have h1 := HMk.out.2
                have h2 := HLE.out
                rw [Nat.succ_mul]
                generalize k * 4 ^ vs.length = a1 at h1 ⊢
                generalize 4 ^ vs.length = a2 at h2 ⊢
                omega⟩⟩
          · obtain rfl : k = xs.length := by omega
            have HQ4 : Aside0 (q = (true, sk)) := ⟨by rw [← HQ3.out]; have h := HG.out; rw [List.take_length] at h; exact h⟩
            go_wp2
            go_ret
            exact CPost.mk HQ4.out _ HIk.out HKk.out (Hat.lower HAk.out.1 HLW.out)
    · have hz : (er == 0) = false := by simpa using he
      have hz2 : (er != 0) = true := by simpa using he
      have HQ3 : Aside0 (q = (false, ⟨s.out, s.many.set i m, i, er⟩)) := ⟨by have h := HQ2.out; have hc : (if er = 0 ∧ 10000 < m then (3 : Int) else er) = er := if_neg (fun h => he h.1); rw [hc, if_pos he] at h; exact h.symm⟩
      clear he
      go_upto_region 9 with fail
      clear c8_ cm_ hz hz2
      have HI9 := Aside0.mk (HI.out.at9 (i : Int))
      have HF := Aside0.mk (HI9.out.at10 er)
      have HK2 := Aside0.mk ((HK.out.setCell (p := ⟨p.b9, 0, none⟩) (.inl (.inr (.inl rfl))) (.int .i64 (i : Int))).setCell (p := ⟨p.b10, 0, none⟩) (.inl (.inr (.inr (.inl rfl)))) (.int .i64 er))
      have c9_ := (blk_cell HI.out.h9 0).trans (rfl : _ = some (.int .i64 s.at_ : Value))
      have f9_ := blk_frozen HI.out.h9 0
      have c10_ := (blk_cell HI9.out.h10 0).trans (rfl : _ = some (.int .i64 s.err : Value))
      have f10_ := blk_frozen HI9.out.h10 0
      go_wp2
      go_ret
      exact CPost.mk HQ3.out _ HF.out HK2.out (Hat.refl _ _)
end Go.Proofs.Ythkilejcddgodaa.Ex
