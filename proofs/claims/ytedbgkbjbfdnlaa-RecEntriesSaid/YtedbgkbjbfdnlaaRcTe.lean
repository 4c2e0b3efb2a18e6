/- rec.ToEntry, in the form of the printer's own contracts. -/
import Derived.Test.YtedbgkbjbfdnlaaRcTeP
import Derived.Test.YtedbgkbjbfdnlaaRcIs
import Derived.Test.YtedbgkbjbfdnlaaRcMay
namespace Go.Proofs.Ytedbgkbjbfdnlaa.Rc
open Go Go.RowKit Go.Proofs.YtedbgkbjbfdnlaaW.PrintWords Go.Proofs.YtedbgkbjbfdnlaaW.PrintLast Go.Proofs.YtedbgkbjbfdnlaaW.PrintMore Go.Proofs.Ytedbgkbjbfdnlaa.Pk
attribute [local go_sem] max2_int min2_int max_two min_two max_three min_three max_four min_four
set_option linter.unusedVariables false
set_option linter.unusedSimpArgs false
/-- What the walk knows between two readings. -/
structure TE (w0 wr : World) (base b g2 g5 : Nat) (cs : Array Value) (r : List Int) : Prop where
  b2 : wr.heap[g2]? = some (.cells #[.int .i64 0, .int .i64 0, .int .i64 0, .int .i64 0, .int .i64 0, .int .i64 0, .int .i64 0, .int .i64 0, .bool false, .slice none 0 0, .slice none 0 0] 26 (0, 0))
  b5 : wr.heap[g5]? = some (.cells cs 26 (0, 0))
  n2 : g2 ≠ b
  n5 : g5 ≠ b
  n25 : g2 ≠ g5
  l2 : w0.heap.size ≤ g2
  l5 : w0.heap.size ≤ g5
  ba : w0.heap.size ≤ base
  rd : Rdr wr base b r
  hb : Below w0.heap.size w0 wr
theorem TE.read {w0 wr w1 : World} {base b g2 g5 : Nat} {cs : Array Value} {r r1 : List Int} (h : TE w0 wr base b g2 g5 cs r) (hr : Rdr w1 base b r1) (hg : wr.grownBy w1 (some b)) : TE w0 w1 base b g2 g5 cs r1 :=
  ⟨blk_grown h.b2 hg (by simpa using h.n2), blk_grown h.b5 hg (by simpa using h.n5), h.n2, h.n5, h.n25, h.l2, h.l5, h.ba, hr, (h.rd.lower h.ba).from h.hb h.hb.size hg⟩
theorem TE.below {w0 wr w1 : World} {base b g2 g5 : Nat} {cs : Array Value} {r : List Int} (h : TE w0 wr base b g2 g5 cs r) (hb : Below wr.heap.size wr w1) : TE w0 w1 base b g2 g5 cs r :=
  ⟨blk_below h.b2 hb, blk_below h.b5 hb, h.n2, h.n5, h.n25, h.l2, h.l5, h.ba, h.rd.below hb, below_step h.hb hb⟩
theorem TE.put {w0 wr : World} {base b g2 g5 : Nat} {cs cs' : Array Value} {r : List Int} (h : TE w0 wr base b g2 g5 cs r) (j : Nat) (v : Value) (e : cs.setIfInBounds j v = cs') : TE w0 (wr.setCell ⟨g5, j, none⟩ v) base b g2 g5 cs' r :=
  ⟨blk_far h.b2 (p := ⟨g5, j, none⟩) h.n25 _, blk_put h.b5 j _ e, h.n2, h.n5, h.n25, h.l2, h.l5, h.ba, Rdr_far h.rd h.b5 h.n5 (by decide) j _, below_set h.hb h.l5⟩
theorem B_fin {w0 w : World} {g : Nat} {c0 c1 c2 c3 c4 c5 c6 c7 c8 c9 c10 : Value} (hb : w.heap[g]? = some (.cells #[c0, c1, c2, c3, c4, c5, c6, c7, c8, c9, c10] 26 (0, 0))) (hB : Below w0.heap.size w0 w) (hg : w0.heap.size ≤ g) (v0 v1 v2 v3 v4 v5 v6 v7 v8 v9 v10 : Value) : ∃ w9, w9 = (((((((((((w.setCell ⟨g, 0, none⟩ v0).setCell ⟨g, 1, none⟩ v1).setCell ⟨g, 2, none⟩ v2).setCell ⟨g, 3, none⟩ v3).setCell ⟨g, 4, none⟩ v4).setCell ⟨g, 5, none⟩ v5).setCell ⟨g, 6, none⟩ v6).setCell ⟨g, 7, none⟩ v7).setCell ⟨g, 8, none⟩ v8).setCell ⟨g, 9, none⟩ v9).setCell ⟨g, 10, none⟩ v10) ∧ w9.heap[g]? = some (.cells #[v0, v1, v2, v3, v4, v5, v6, v7, v8, v9, v10] 26 (0, 0)) ∧ Below w0.heap.size w0 w9 := by
  refine ⟨_, rfl, ?_, ?_⟩
  · skip
    have b0 : (w.setCell ⟨g, 0, none⟩ v0).heap[g]? = some (.cells #[v0, c1, c2, c3, c4, c5, c6, c7, c8, c9, c10] 26 (0, 0)) := blk_put hb 0 v0 rfl
    have b1 : ((w.setCell ⟨g, 0, none⟩ v0).setCell ⟨g, 1, none⟩ v1).heap[g]? = some (.cells #[v0, v1, c2, c3, c4, c5, c6, c7, c8, c9, c10] 26 (0, 0)) := blk_put b0 1 v1 rfl
    have b2 : (((w.setCell ⟨g, 0, none⟩ v0).setCell ⟨g, 1, none⟩ v1).setCell ⟨g, 2, none⟩ v2).heap[g]? = some (.cells #[v0, v1, v2, c3, c4, c5, c6, c7, c8, c9, c10] 26 (0, 0)) := blk_put b1 2 v2 rfl
    have b3 : ((((w.setCell ⟨g, 0, none⟩ v0).setCell ⟨g, 1, none⟩ v1).setCell ⟨g, 2, none⟩ v2).setCell ⟨g, 3, none⟩ v3).heap[g]? = some (.cells #[v0, v1, v2, v3, c4, c5, c6, c7, c8, c9, c10] 26 (0, 0)) := blk_put b2 3 v3 rfl
    have b4 : (((((w.setCell ⟨g, 0, none⟩ v0).setCell ⟨g, 1, none⟩ v1).setCell ⟨g, 2, none⟩ v2).setCell ⟨g, 3, none⟩ v3).setCell ⟨g, 4, none⟩ v4).heap[g]? = some (.cells #[v0, v1, v2, v3, v4, c5, c6, c7, c8, c9, c10] 26 (0, 0)) := blk_put b3 4 v4 rfl
    have b5 : ((((((w.setCell ⟨g, 0, none⟩ v0).setCell ⟨g, 1, none⟩ v1).setCell ⟨g, 2, none⟩ v2).setCell ⟨g, 3, none⟩ v3).setCell ⟨g, 4, none⟩ v4).setCell ⟨g, 5, none⟩ v5).heap[g]? = some (.cells #[v0, v1, v2, v3, v4, v5, c6, c7, c8, c9, c10] 26 (0, 0)) := blk_put b4 5 v5 rfl
    have b6 : (((((((w.setCell ⟨g, 0, none⟩ v0).setCell ⟨g, 1, none⟩ v1).setCell ⟨g, 2, none⟩ v2).setCell ⟨g, 3, none⟩ v3).setCell ⟨g, 4, none⟩ v4).setCell ⟨g, 5, none⟩ v5).setCell ⟨g, 6, none⟩ v6).heap[g]? = some (.cells #[v0, v1, v2, v3, v4, v5, v6, c7, c8, c9, c10] 26 (0, 0)) := blk_put b5 6 v6 rfl
    have b7 : ((((((((w.setCell ⟨g, 0, none⟩ v0).setCell ⟨g, 1, none⟩ v1).setCell ⟨g, 2, none⟩ v2).setCell ⟨g, 3, none⟩ v3).setCell ⟨g, 4, none⟩ v4).setCell ⟨g, 5, none⟩ v5).setCell ⟨g, 6, none⟩ v6).setCell ⟨g, 7, none⟩ v7).heap[g]? = some (.cells #[v0, v1, v2, v3, v4, v5, v6, v7, c8, c9, c10] 26 (0, 0)) := blk_put b6 7 v7 rfl
    have b8 : (((((((((w.setCell ⟨g, 0, none⟩ v0).setCell ⟨g, 1, none⟩ v1).setCell ⟨g, 2, none⟩ v2).setCell ⟨g, 3, none⟩ v3).setCell ⟨g, 4, none⟩ v4).setCell ⟨g, 5, none⟩ v5).setCell ⟨g, 6, none⟩ v6).setCell ⟨g, 7, none⟩ v7).setCell ⟨g, 8, none⟩ v8).heap[g]? = some (.cells #[v0, v1, v2, v3, v4, v5, v6, v7, v8, c9, c10] 26 (0, 0)) := blk_put b7 8 v8 rfl
    have b9 : ((((((((((w.setCell ⟨g, 0, none⟩ v0).setCell ⟨g, 1, none⟩ v1).setCell ⟨g, 2, none⟩ v2).setCell ⟨g, 3, none⟩ v3).setCell ⟨g, 4, none⟩ v4).setCell ⟨g, 5, none⟩ v5).setCell ⟨g, 6, none⟩ v6).setCell ⟨g, 7, none⟩ v7).setCell ⟨g, 8, none⟩ v8).setCell ⟨g, 9, none⟩ v9).heap[g]? = some (.cells #[v0, v1, v2, v3, v4, v5, v6, v7, v8, v9, c10] 26 (0, 0)) := blk_put b8 9 v9 rfl
    have b10 : (((((((((((w.setCell ⟨g, 0, none⟩ v0).setCell ⟨g, 1, none⟩ v1).setCell ⟨g, 2, none⟩ v2).setCell ⟨g, 3, none⟩ v3).setCell ⟨g, 4, none⟩ v4).setCell ⟨g, 5, none⟩ v5).setCell ⟨g, 6, none⟩ v6).setCell ⟨g, 7, none⟩ v7).setCell ⟨g, 8, none⟩ v8).setCell ⟨g, 9, none⟩ v9).setCell ⟨g, 10, none⟩ v10).heap[g]? = some (.cells #[v0, v1, v2, v3, v4, v5, v6, v7, v8, v9, v10] 26 (0, 0)) := blk_put b9 10 v10 rfl
    exact b10
  · exact below_set (j := 10) (v := v10) (below_set (j := 9) (v := v9) (below_set (j := 8) (v := v8) (below_set (j := 7) (v := v7) (below_set (j := 6) (v := v6) (below_set (j := 5) (v := v5) (below_set (j := 4) (v := v4) (below_set (j := 3) (v := v3) (below_set (j := 2) (v := v2) (below_set (j := 1) (v := v1) (below_set (j := 0) (v := v0) (hB) hg) hg) hg) hg) hg) hg) hg) hg) hg) hg) hg
theorem R_fin {w : World} {g base : Nat} {cs : Array Value} {ok : Nat → Prop} {v : Value} {xs : List Int} (h : (Kd.int .i64).R 3 w base ok v xs) (hb : w.heap[g]? = some (.cells cs 26 (0, 0))) (v0 v1 v2 v3 v4 v5 v6 v7 v8 v9 v10 : Value) : (Kd.int .i64).R 3 (((((((((((w.setCell ⟨g, 0, none⟩ v0).setCell ⟨g, 1, none⟩ v1).setCell ⟨g, 2, none⟩ v2).setCell ⟨g, 3, none⟩ v3).setCell ⟨g, 4, none⟩ v4).setCell ⟨g, 5, none⟩ v5).setCell ⟨g, 6, none⟩ v6).setCell ⟨g, 7, none⟩ v7).setCell ⟨g, 8, none⟩ v8).setCell ⟨g, 9, none⟩ v9).setCell ⟨g, 10, none⟩ v10) base ok v xs := by
  have b0 := blk_set hb 0 v0
  have b1 := blk_set b0 1 v1
  have b2 := blk_set b1 2 v2
  have b3 := blk_set b2 3 v3
  have b4 := blk_set b3 4 v4
  have b5 := blk_set b4 5 v5
  have b6 := blk_set b5 6 v6
  have b7 := blk_set b6 7 v7
  have b8 := blk_set b7 8 v8
  have b9 := blk_set b8 9 v9
  exact Kd.R_set (Kd.R_set (Kd.R_set (Kd.R_set (Kd.R_set (Kd.R_set (Kd.R_set (Kd.R_set (Kd.R_set (Kd.R_set (Kd.R_set (h) hb (by decide) 0 v0) b0 (by decide) 1 v1) b1 (by decide) 2 v2) b2 (by decide) 3 v3) b3 (by decide) 4 v4) b4 (by decide) 5 v5) b5 (by decide) 6 v6) b6 (by decide) 7 v7) b7 (by decide) 8 v8) b8 (by decide) 9 v9) b9 (by decide) 10 v10
def Inv5 (xs : List Int) (i : Nat) (vs : List Int) (r : List Int) : Prop := nums5 5 xs = (vs ++ (nums5 (5 - i) r).1, (nums5 (5 - i) r).2.1, (nums5 (5 - i) r).2.2)
theorem Inv5.next {xs : List Int} {i : Nat} {vs r : List Int} (h : Inv5 xs i vs r) (hi : i < 5) (h0 : (rdU r).2.1 = 0) : Inv5 xs (i + 1) (vs ++ [cap (rdU r).1]) (rdU r).2.2 := by
  unfold Inv5 at h ⊢
  rw [h, show 5 - i = (5 - (i + 1)) + 1 by omega, nums5, if_neg (by simpa using h0)]
  simp
theorem Inv5.bad {xs : List Int} {i : Nat} {vs r : List Int} (h : Inv5 xs i vs r) (hi : i < 5) (h0 : (rdU r).2.1 ≠ 0) : (nums5 5 xs).2.1 = (rdU r).2.1 := by
  unfold Inv5 at h
  rw [h, show 5 - i = (5 - (i + 1)) + 1 by omega, nums5, if_pos h0]
theorem cap_mn {n : Int} (h0 : 0 ≤ n) (h : n < 18446744073709551616) : wrap64 (if 1048577 < n then 1048577 else n) = cap n := by
  unfold wrap64 cap
  repeat' split
  all_goals omega
set_option maxHeartbeats 8000000 in
set_option maxRecDepth 100000 in
theorem toEnt_ok (A0 : Option Addr) (c0 : Nat) (l0 : List Int) (w : World) (hr0 : Kd.C (Kd.int .u8) w A0 l0.length l0) (hl : l0.length < 140737488355328) (hby : Byt l0) :
    Calls Try.prog 18 #[.slice A0 l0.length c0] w fun e w' => ∃ v9 v10 : Value, e = .returned (.tuple #[.agg #[.int .i64 (toEnt l0).1.kind, .int .i64 (toEnt l0).1.task, .int .i64 (toEnt l0).1.epoch, .int .i64 (toEnt l0).1.txn, .int .i64 (toEnt l0).1.log, .int .i64 (toEnt l0).1.key, .int .i64 (toEnt l0).1.val, .int .i64 (toEnt l0).1.time, .bool (toEnt l0).1.del, v9, v10], .int .i64 (toEnt l0).2]) ∧ Kd.R (Kd.int .i64) 3 w' w.heap.size (fun _ => True) v9 (toEnt l0).1.offs ∧ Kd.R (Kd.int .i64) 3 w' w.heap.size (fun _ => True) v10 (toEnt l0).1.order ∧ Below w.heap.size w w' := by
  have HC0 := Aside0.mk hr0
  have HL0 := Aside0.mk hl
  have HBY := Aside0.mk hby
  clear hr0 hl hby
  obtain ⟨q, HQ⟩ : ∃ q, Aside0 (toEnt l0 = q) := ⟨_, ⟨rfl⟩⟩
  rw [HQ.out]
  obtain ⟨n0, HN0⟩ : ∃ n0, Aside0 (l0.length = n0) := ⟨_, ⟨rfl⟩⟩
  rw [HN0.out]
  go_enter Try.func18, Try.ntmps18
  go_upto_region 1 with fail
  have BK2 := Aside0.mk (heap_alloc_new w (.cells #[.int .i64 0, .int .i64 0, .int .i64 0, .int .i64 0, .int .i64 0, .int .i64 0, .int .i64 0, .int .i64 0, .bool false, .slice none 0 0, .slice none 0 0] 26))
  have hb_ := below_alloc (Below.refl w.heap.size w) (.cells #[.int .i64 0, .int .i64 0, .int .i64 0, .int .i64 0, .int .i64 0, .int .i64 0, .int .i64 0, .int .i64 0, .bool false, .slice none 0 0, .slice none 0 0] 26)
  have HB := Aside0.mk hb_
  generalize w.alloc (.cells #[.int .i64 0, .int .i64 0, .int .i64 0, .int .i64 0, .int .i64 0, .int .i64 0, .int .i64 0, .int .i64 0, .bool false, .slice none 0 0, .slice none 0 0] 26) = w0 at BK2 hb_ HB ⊢
  replace HC0 := Aside0.mk (Kd.C_below HC0.out hb_)
  obtain ⟨g2, HG2⟩ : ∃ g2, Aside0 (w.heap.size = g2) := ⟨_, ⟨rfl⟩⟩
  have HL2 : Aside0 (w.heap.size ≤ g2) := ⟨by rw [HG2.out]; omega⟩
  replace BK2 : Aside0 (w0.heap[g2]? = some (.cells #[.int .i64 0, .int .i64 0, .int .i64 0, .int .i64 0, .int .i64 0, .int .i64 0, .int .i64 0, .int .i64 0, .bool false, .slice none 0 0, .slice none 0 0] 26 (0, 0))) := ⟨by rw [← HG2.out]; exact BK2.out⟩
  have HS0 := Aside0.mk (Array.getElem?_eq_some_iff.1 BK2.out).1
  clear hb_
  go_wp2_with fail
  rw [HG2.out]
  rw [← HN0.out]
  refine (from_any A0 c0 l0 _ HC0.out HL0.out HBY.out).mono ?_
  rintro e w1 ⟨b, rfl, hR, hb_⟩
  rw [HN0.out]
  have HR := Aside0.mk hR
  clear hR
  replace BK2 := Aside0.mk (blk_below BK2.out hb_)
  replace HB := Aside0.mk (below_step HB.out hb_)
  have HNB : Aside0 (g2 ≠ b) := ⟨by have := HR.out.1; have := HS0.out; omega⟩
  clear hb_
  go_upto_region 3 with fail
  have HTE : Aside0 (TE w (w1.alloc (.cells #[.int .i64 0, .int .i64 0, .int .i64 0, .int .i64 0, .int .i64 0, .int .i64 0, .int .i64 0, .int .i64 0, .bool false, .slice none 0 0, .slice none 0 0] 26)) w0.heap.size b g2 w1.heap.size #[.int .i64 0, .int .i64 0, .int .i64 0, .int .i64 0, .int .i64 0, .int .i64 0, .int .i64 0, .int .i64 0, .bool false, .slice none 0 0, .slice none 0 0] l0) := ⟨by
    have hlt := HR.out.lt
    have h2 := (Array.getElem?_eq_some_iff.1 BK2.out).1
    exact ⟨blk_below BK2.out (below_alloc (Below.refl _ _) _), heap_alloc_new w1 _, HNB.out, by omega, by omega, HL2.out, HB.out.size, by have := HS0.out; have := HL2.out; omega, HR.out.below (below_alloc (Below.refl _ _) _), below_step HB.out (below_alloc (Below.refl _ _) _)⟩⟩
  generalize w1.alloc (.cells #[.int .i64 0, .int .i64 0, .int .i64 0, .int .i64 0, .int .i64 0, .int .i64 0, .int .i64 0, .int .i64 0, .bool false, .slice none 0 0, .slice none 0 0] 26) = w2 at HTE ⊢
  generalize w1.heap.size = g5 at HTE ⊢
  clear HR BK2 HB HC0
  go_wp2_with fail
  have HP : Aside0 ((w2.alloc (.cells #[.pointer (some ⟨g5, 0, none⟩), .pointer (some ⟨g5, 1, none⟩), .pointer (some ⟨g5, 2, none⟩), .pointer (some ⟨g5, 3, none⟩), .pointer (some ⟨g5, 4, none⟩)] 68)).heap[w2.heap.size]? = some (.cells #[.pointer (some ⟨g5, 0, none⟩), .pointer (some ⟨g5, 1, none⟩), .pointer (some ⟨g5, 2, none⟩), .pointer (some ⟨g5, 3, none⟩), .pointer (some ⟨g5, 4, none⟩)] 68 (0, 0))) := ⟨heap_alloc_new w2 _⟩
  have hb_ := below_alloc (Below.refl w2.heap.size w2) (.cells #[.pointer (some ⟨g5, 0, none⟩), .pointer (some ⟨g5, 1, none⟩), .pointer (some ⟨g5, 2, none⟩), .pointer (some ⟨g5, 3, none⟩), .pointer (some ⟨g5, 4, none⟩)] 68)
  have HN6 : Aside0 (w2.heap.size ≠ b) := ⟨by have := HTE.out.rd.lt; omega⟩
  have HN65 : Aside0 (w2.heap.size ≠ g5) := ⟨by have := (Array.getElem?_eq_some_iff.1 HTE.out.b5).1; omega⟩
  generalize w2.alloc (.cells #[.pointer (some ⟨g5, 0, none⟩), .pointer (some ⟨g5, 1, none⟩), .pointer (some ⟨g5, 2, none⟩), .pointer (some ⟨g5, 3, none⟩), .pointer (some ⟨g5, 4, none⟩)] 68) = w3 at HP hb_ ⊢
  replace HTE := Aside0.mk (HTE.out.below hb_)
  generalize w2.heap.size = g6 at HP HN6 HN65 ⊢
  clear hb_
  go_loopw [21] (fun v21 wr => ∃ (i : Nat) (v0 v1 v2 v3 v4 : Int) (r : List Int), i ≤ 5 ∧ v21 = .int .i64 (i : Int) ∧ Aside0 (TE w wr w0.heap.size b g2 g5 #[.int .i64 v0, .int .i64 v1, .int .i64 v2, .int .i64 v3, .int .i64 v4, .int .i64 0, .int .i64 0, .int .i64 0, .bool false, .slice none 0 0, .slice none 0 0] r) ∧ Aside0 (wr.heap[g6]? = some (.cells #[.pointer (some ⟨g5, 0, none⟩), .pointer (some ⟨g5, 1, none⟩), .pointer (some ⟨g5, 2, none⟩), .pointer (some ⟨g5, 3, none⟩), .pointer (some ⟨g5, 4, none⟩)] 68 (0, 0))) ∧ Aside0 (Inv5 l0 i ([v0, v1, v2, v3, v4].take i) r)) (fun v21 _ => 5 - (intOf v21).toNat)
  case atStart => exact ⟨0, 0, 0, 0, 0, 0, l0, by omega, rfl, HTE, HP, ⟨by simp [Inv5]⟩⟩
  case round =>
    clear HTE HP
    obtain ⟨i, v0, v1, v2, v3, v4, r, hi5, rfl, HTE, HP, HI⟩ := hrel
    obtain rfl | rfl | rfl | rfl | rfl | rfl : i = 0 ∨ i = 1 ∨ i = 2 ∨ i = 3 ∨ i = 4 ∨ i = 5 := by omega
    · have HR := Aside0.mk HTE.out.rd
      have HX := Aside0.mk (rdU_range HR.out.byt)
      obtain ⟨n_, HN⟩ : ∃ s, Aside0 ((rdU r).1 = s) := ⟨_, ⟨rfl⟩⟩
      obtain ⟨e_, HE⟩ : ∃ s, Aside0 ((rdU r).2.1 = s) := ⟨_, ⟨rfl⟩⟩
      rw [HN.out] at HX
      have hcap := cap_mn HX.out.1 HX.out.2
      have q_ : wr.cell? ⟨g6, 0, none⟩ = some (.pointer (some ⟨g5, 0, none⟩)) := (blk_cell HP.out 0).trans rfl
      obtain ⟨c_, HC⟩ : ∃ s, Aside0 (cap n_ = s) := ⟨_, ⟨rfl⟩⟩
      rw [HC.out] at hcap
      go_wp2_with fail
      refine (uint_some b r w0.heap.size _ HR.out).mono ?_
      rintro e w4 ⟨he1, h1, h2⟩
      rw [HN.out, HE.out] at he1
      subst he1
      have HTE1 := Aside0.mk (HTE.out.read h1 h2)
      have HP1 := Aside0.mk (blk_grown HP.out h2 (by have := HN6.out; simpa using this))
      clear h1 h2
      go_upto_region 8 with fail
      clear q_
      by_cases he : e_ = 0
      · have hz : (e_ != 0) = false := by simpa using he
        have HI2 := HI.out.next (by omega) (HE.out.trans he)
        rw [HN.out, HC.out] at HI2
        have HI3 := Aside0.mk HI2
        clear HI2
        have c0_ : w4.cell? ⟨g5, 0, none⟩ = some (.int .i64 v0) := (blk_cell HTE1.out.b5 0).trans rfl
        have f0_ := blk_frozen HTE1.out.b5 0
        go_upto_region 11 with fail
        clear c0_ f0_
        replace HP1 := Aside0.mk (blk_far HP1.out (p := ⟨g5, 0, none⟩) HN65.out (.int .i64 c_))
        replace HTE1 := Aside0.mk (HTE1.out.put 0 (.int .i64 c_) (cs' := #[.int .i64 c_, .int .i64 v1, .int .i64 v2, .int .i64 v3, .int .i64 v4, .int .i64 0, .int .i64 0, .int .i64 0, .bool false, .slice none 0 0, .slice none 0 0]) rfl)
        generalize w4.setCell ⟨g5, 0, none⟩ (.int .i64 c_) = w5 at HTE1 HP1 ⊢
        go_wp2
        refine ⟨?_, by simp [intOf]⟩
        exact ⟨1, c_, v1, v2, v3, v4, _, by omega, rfl, HTE1, HP1, HI3⟩
      · have hz : (e_ != 0) = true := by simpa using he
        have HBAD := Aside0.mk (HI.out.bad (by omega) (by rw [HE.out]; exact he))
        rw [HE.out] at HBAD
        have he2 := Aside0.mk he
        clear he
        obtain rfl : q = (zeroE, e_) := by rw [← HQ.out]; unfold toEnt; simp only; rw [HBAD.out, if_pos he2.out]
        have d0_ := (blk_cell HTE1.out.b2 0).trans (rfl : _ = some (.int .i64 0 : Value))
        have d1_ := (blk_cell HTE1.out.b2 1).trans (rfl : _ = some (.int .i64 0 : Value))
        have d2_ := (blk_cell HTE1.out.b2 2).trans (rfl : _ = some (.int .i64 0 : Value))
        have d3_ := (blk_cell HTE1.out.b2 3).trans (rfl : _ = some (.int .i64 0 : Value))
        have d4_ := (blk_cell HTE1.out.b2 4).trans (rfl : _ = some (.int .i64 0 : Value))
        have d5_ := (blk_cell HTE1.out.b2 5).trans (rfl : _ = some (.int .i64 0 : Value))
        have d6_ := (blk_cell HTE1.out.b2 6).trans (rfl : _ = some (.int .i64 0 : Value))
        have d7_ := (blk_cell HTE1.out.b2 7).trans (rfl : _ = some (.int .i64 0 : Value))
        have d8_ := (blk_cell HTE1.out.b2 8).trans (rfl : _ = some (.bool false : Value))
        have d9_ := (blk_cell HTE1.out.b2 9).trans (rfl : _ = some (.slice none 0 0 : Value))
        have d10_ := (blk_cell HTE1.out.b2 10).trans (rfl : _ = some (.slice none 0 0 : Value))
        have k0_ := blk_frozen HTE1.out.b2 0
        have k1_ := blk_frozen HTE1.out.b2 1
        have k2_ := blk_frozen HTE1.out.b2 2
        have k3_ := blk_frozen HTE1.out.b2 3
        have k4_ := blk_frozen HTE1.out.b2 4
        have k5_ := blk_frozen HTE1.out.b2 5
        have k6_ := blk_frozen HTE1.out.b2 6
        have k7_ := blk_frozen HTE1.out.b2 7
        have k8_ := blk_frozen HTE1.out.b2 8
        have k9_ := blk_frozen HTE1.out.b2 9
        have k10_ := blk_frozen HTE1.out.b2 10
        go_wp2
        have B_ := blk_put (blk_put (blk_put (blk_put (blk_put (blk_put (blk_put (blk_put (blk_put (blk_put (blk_put (HTE1.out.b2) 0 (.int .i64 0) rfl) 1 (.int .i64 0) rfl) 2 (.int .i64 0) rfl) 3 (.int .i64 0) rfl) 4 (.int .i64 0) rfl) 5 (.int .i64 0) rfl) 6 (.int .i64 0) rfl) 7 (.int .i64 0) rfl) 8 (.bool false) rfl) 9 (.slice none 0 0) rfl) 10 (.slice none 0 0) rfl
        have G_ := below_set (j := 10) (v := .slice none 0 0) (below_set (j := 9) (v := .slice none 0 0) (below_set (j := 8) (v := .bool false) (below_set (j := 7) (v := .int .i64 0) (below_set (j := 6) (v := .int .i64 0) (below_set (j := 5) (v := .int .i64 0) (below_set (j := 4) (v := .int .i64 0) (below_set (j := 3) (v := .int .i64 0) (below_set (j := 2) (v := .int .i64 0) (below_set (j := 1) (v := .int .i64 0) (below_set (j := 0) (v := .int .i64 0) (HTE1.out.hb) HTE1.out.l2) HTE1.out.l2) HTE1.out.l2) HTE1.out.l2) HTE1.out.l2) HTE1.out.l2) HTE1.out.l2) HTE1.out.l2) HTE1.out.l2) HTE1.out.l2) HTE1.out.l2
        generalize (((((((((((w4).setCell ⟨g2, 0, none⟩ (.int .i64 0)).setCell ⟨g2, 1, none⟩ (.int .i64 0)).setCell ⟨g2, 2, none⟩ (.int .i64 0)).setCell ⟨g2, 3, none⟩ (.int .i64 0)).setCell ⟨g2, 4, none⟩ (.int .i64 0)).setCell ⟨g2, 5, none⟩ (.int .i64 0)).setCell ⟨g2, 6, none⟩ (.int .i64 0)).setCell ⟨g2, 7, none⟩ (.int .i64 0)).setCell ⟨g2, 8, none⟩ (.bool false)).setCell ⟨g2, 9, none⟩ (.slice none 0 0)).setCell ⟨g2, 10, none⟩ (.slice none 0 0) = w99 at B_ G_ ⊢
        have p0_ : w99.cell? ⟨g2, 0, none⟩ = some (.int .i64 0) := (blk_cell B_ 0).trans rfl
        have p1_ : w99.cell? ⟨g2, 1, none⟩ = some (.int .i64 0) := (blk_cell B_ 1).trans rfl
        have p2_ : w99.cell? ⟨g2, 2, none⟩ = some (.int .i64 0) := (blk_cell B_ 2).trans rfl
        have p3_ : w99.cell? ⟨g2, 3, none⟩ = some (.int .i64 0) := (blk_cell B_ 3).trans rfl
        have p4_ : w99.cell? ⟨g2, 4, none⟩ = some (.int .i64 0) := (blk_cell B_ 4).trans rfl
        have p5_ : w99.cell? ⟨g2, 5, none⟩ = some (.int .i64 0) := (blk_cell B_ 5).trans rfl
        have p6_ : w99.cell? ⟨g2, 6, none⟩ = some (.int .i64 0) := (blk_cell B_ 6).trans rfl
        have p7_ : w99.cell? ⟨g2, 7, none⟩ = some (.int .i64 0) := (blk_cell B_ 7).trans rfl
        have p8_ : w99.cell? ⟨g2, 8, none⟩ = some (.bool false) := (blk_cell B_ 8).trans rfl
        have p9_ : w99.cell? ⟨g2, 9, none⟩ = some (.slice none 0 0) := (blk_cell B_ 9).trans rfl
        have p10_ : w99.cell? ⟨g2, 10, none⟩ = some (.slice none 0 0) := (blk_cell B_ 10).trans rfl
        refine bodyPost_ret (v := .tuple #[.agg #[.int .i64 0, .int .i64 0, .int .i64 0, .int .i64 0, .int .i64 0, .int .i64 0, .int .i64 0, .int .i64 0, .bool false, .slice none 0 0, .slice none 0 0], .int .i64 e_]) (by simp [results, Try.results18, go_sem, p0_, p1_, p2_, p3_, p4_, p5_, p6_, p7_, p8_, p9_, p10_]) rfl ?_
        exact ⟨.slice none 0 0, .slice none 0 0, rfl, Kd.R_nil _ _ _ _ _, Kd.R_nil _ _ _ _ _, G_⟩
    · have HR := Aside0.mk HTE.out.rd
      have HX := Aside0.mk (rdU_range HR.out.byt)
      obtain ⟨n_, HN⟩ : ∃ s, Aside0 ((rdU r).1 = s) := ⟨_, ⟨rfl⟩⟩
      obtain ⟨e_, HE⟩ : ∃ s, Aside0 ((rdU r).2.1 = s) := ⟨_, ⟨rfl⟩⟩
      rw [HN.out] at HX
      have hcap := cap_mn HX.out.1 HX.out.2
      have q_ : wr.cell? ⟨g6, 1, none⟩ = some (.pointer (some ⟨g5, 1, none⟩)) := (blk_cell HP.out 1).trans rfl
      obtain ⟨c_, HC⟩ : ∃ s, Aside0 (cap n_ = s) := ⟨_, ⟨rfl⟩⟩
      rw [HC.out] at hcap
      go_wp2_with fail
      refine (uint_some b r w0.heap.size _ HR.out).mono ?_
      rintro e w4 ⟨he1, h1, h2⟩
      rw [HN.out, HE.out] at he1
      subst he1
      have HTE1 := Aside0.mk (HTE.out.read h1 h2)
      have HP1 := Aside0.mk (blk_grown HP.out h2 (by have := HN6.out; simpa using this))
      clear h1 h2
      go_upto_region 8 with fail
      clear q_
      by_cases he : e_ = 0
      · have hz : (e_ != 0) = false := by simpa using he
        have HI2 := HI.out.next (by omega) (HE.out.trans he)
        rw [HN.out, HC.out] at HI2
        have HI3 := Aside0.mk HI2
        clear HI2
        have c0_ : w4.cell? ⟨g5, 1, none⟩ = some (.int .i64 v1) := (blk_cell HTE1.out.b5 1).trans rfl
        have f0_ := blk_frozen HTE1.out.b5 1
        go_upto_region 11 with fail
        clear c0_ f0_
        replace HP1 := Aside0.mk (blk_far HP1.out (p := ⟨g5, 1, none⟩) HN65.out (.int .i64 c_))
        replace HTE1 := Aside0.mk (HTE1.out.put 1 (.int .i64 c_) (cs' := #[.int .i64 v0, .int .i64 c_, .int .i64 v2, .int .i64 v3, .int .i64 v4, .int .i64 0, .int .i64 0, .int .i64 0, .bool false, .slice none 0 0, .slice none 0 0]) rfl)
        generalize w4.setCell ⟨g5, 1, none⟩ (.int .i64 c_) = w5 at HTE1 HP1 ⊢
        go_wp2
        refine ⟨?_, by simp [intOf]⟩
        exact ⟨2, v0, c_, v2, v3, v4, _, by omega, rfl, HTE1, HP1, HI3⟩
      · have hz : (e_ != 0) = true := by simpa using he
        have HBAD := Aside0.mk (HI.out.bad (by omega) (by rw [HE.out]; exact he))
        rw [HE.out] at HBAD
        have he2 := Aside0.mk he
        clear he
        obtain rfl : q = (zeroE, e_) := by rw [← HQ.out]; unfold toEnt; simp only; rw [HBAD.out, if_pos he2.out]
        have d0_ := (blk_cell HTE1.out.b2 0).trans (rfl : _ = some (.int .i64 0 : Value))
        have d1_ := (blk_cell HTE1.out.b2 1).trans (rfl : _ = some (.int .i64 0 : Value))
        have d2_ := (blk_cell HTE1.out.b2 2).trans (rfl : _ = some (.int .i64 0 : Value))
        have d3_ := (blk_cell HTE1.out.b2 3).trans (rfl : _ = some (.int .i64 0 : Value))
        have d4_ := (blk_cell HTE1.out.b2 4).trans (rfl : _ = some (.int .i64 0 : Value))
        have d5_ := (blk_cell HTE1.out.b2 5).trans (rfl : _ = some (.int .i64 0 : Value))
        have d6_ := (blk_cell HTE1.out.b2 6).trans (rfl : _ = some (.int .i64 0 : Value))
        have d7_ := (blk_cell HTE1.out.b2 7).trans (rfl : _ = some (.int .i64 0 : Value))
        have d8_ := (blk_cell HTE1.out.b2 8).trans (rfl : _ = some (.bool false : Value))
        have d9_ := (blk_cell HTE1.out.b2 9).trans (rfl : _ = some (.slice none 0 0 : Value))
        have d10_ := (blk_cell HTE1.out.b2 10).trans (rfl : _ = some (.slice none 0 0 : Value))
        have k0_ := blk_frozen HTE1.out.b2 0
        have k1_ := blk_frozen HTE1.out.b2 1
        have k2_ := blk_frozen HTE1.out.b2 2
        have k3_ := blk_frozen HTE1.out.b2 3
        have k4_ := blk_frozen HTE1.out.b2 4
        have k5_ := blk_frozen HTE1.out.b2 5
        have k6_ := blk_frozen HTE1.out.b2 6
        have k7_ := blk_frozen HTE1.out.b2 7
        have k8_ := blk_frozen HTE1.out.b2 8
        have k9_ := blk_frozen HTE1.out.b2 9
        have k10_ := blk_frozen HTE1.out.b2 10
        go_wp2
        have B_ := blk_put (blk_put (blk_put (blk_put (blk_put (blk_put (blk_put (blk_put (blk_put (blk_put (blk_put (HTE1.out.b2) 0 (.int .i64 0) rfl) 1 (.int .i64 0) rfl) 2 (.int .i64 0) rfl) 3 (.int .i64 0) rfl) 4 (.int .i64 0) rfl) 5 (.int .i64 0) rfl) 6 (.int .i64 0) rfl) 7 (.int .i64 0) rfl) 8 (.bool false) rfl) 9 (.slice none 0 0) rfl) 10 (.slice none 0 0) rfl
        have G_ := below_set (j := 10) (v := .slice none 0 0) (below_set (j := 9) (v := .slice none 0 0) (below_set (j := 8) (v := .bool false) (below_set (j := 7) (v := .int .i64 0) (below_set (j := 6) (v := .int .i64 0) (below_set (j := 5) (v := .int .i64 0) (below_set (j := 4) (v := .int .i64 0) (below_set (j := 3) (v := .int .i64 0) (below_set (j := 2) (v := .int .i64 0) (below_set (j := 1) (v := .int .i64 0) (below_set (j := 0) (v := .int .i64 0) (HTE1.out.hb) HTE1.out.l2) HTE1.out.l2) HTE1.out.l2) HTE1.out.l2) HTE1.out.l2) HTE1.out.l2) HTE1.out.l2) HTE1.out.l2) HTE1.out.l2) HTE1.out.l2) HTE1.out.l2
        generalize (((((((((((w4).setCell ⟨g2, 0, none⟩ (.int .i64 0)).setCell ⟨g2, 1, none⟩ (.int .i64 0)).setCell ⟨g2, 2, none⟩ (.int .i64 0)).setCell ⟨g2, 3, none⟩ (.int .i64 0)).setCell ⟨g2, 4, none⟩ (.int .i64 0)).setCell ⟨g2, 5, none⟩ (.int .i64 0)).setCell ⟨g2, 6, none⟩ (.int .i64 0)).setCell ⟨g2, 7, none⟩ (.int .i64 0)).setCell ⟨g2, 8, none⟩ (.bool false)).setCell ⟨g2, 9, none⟩ (.slice none 0 0)).setCell ⟨g2, 10, none⟩ (.slice none 0 0) = w99 at B_ G_ ⊢
        have p0_ : w99.cell? ⟨g2, 0, none⟩ = some (.int .i64 0) := (blk_cell B_ 0).trans rfl
        have p1_ : w99.cell? ⟨g2, 1, none⟩ = some (.int .i64 0) := (blk_cell B_ 1).trans rfl
        have p2_ : w99.cell? ⟨g2, 2, none⟩ = some (.int .i64 0) := (blk_cell B_ 2).trans rfl
        have p3_ : w99.cell? ⟨g2, 3, none⟩ = some (.int .i64 0) := (blk_cell B_ 3).trans rfl
        have p4_ : w99.cell? ⟨g2, 4, none⟩ = some (.int .i64 0) := (blk_cell B_ 4).trans rfl
        have p5_ : w99.cell? ⟨g2, 5, none⟩ = some (.int .i64 0) := (blk_cell B_ 5).trans rfl
        have p6_ : w99.cell? ⟨g2, 6, none⟩ = some (.int .i64 0) := (blk_cell B_ 6).trans rfl
        have p7_ : w99.cell? ⟨g2, 7, none⟩ = some (.int .i64 0) := (blk_cell B_ 7).trans rfl
        have p8_ : w99.cell? ⟨g2, 8, none⟩ = some (.bool false) := (blk_cell B_ 8).trans rfl
        have p9_ : w99.cell? ⟨g2, 9, none⟩ = some (.slice none 0 0) := (blk_cell B_ 9).trans rfl
        have p10_ : w99.cell? ⟨g2, 10, none⟩ = some (.slice none 0 0) := (blk_cell B_ 10).trans rfl
        refine bodyPost_ret (v := .tuple #[.agg #[.int .i64 0, .int .i64 0, .int .i64 0, .int .i64 0, .int .i64 0, .int .i64 0, .int .i64 0, .int .i64 0, .bool false, .slice none 0 0, .slice none 0 0], .int .i64 e_]) (by simp [results, Try.results18, go_sem, p0_, p1_, p2_, p3_, p4_, p5_, p6_, p7_, p8_, p9_, p10_]) rfl ?_
        exact ⟨.slice none 0 0, .slice none 0 0, rfl, Kd.R_nil _ _ _ _ _, Kd.R_nil _ _ _ _ _, G_⟩
    · have HR := Aside0.mk HTE.out.rd
      have HX := Aside0.mk (rdU_range HR.out.byt)
      obtain ⟨n_, HN⟩ : ∃ s, Aside0 ((rdU r).1 = s) := ⟨_, ⟨rfl⟩⟩
      obtain ⟨e_, HE⟩ : ∃ s, Aside0 ((rdU r).2.1 = s) := ⟨_, ⟨rfl⟩⟩
      rw [HN.out] at HX
      have hcap := cap_mn HX.out.1 HX.out.2
      have q_ : wr.cell? ⟨g6, 2, none⟩ = some (.pointer (some ⟨g5, 2, none⟩)) := (blk_cell HP.out 2).trans rfl
      obtain ⟨c_, HC⟩ : ∃ s, Aside0 (cap n_ = s) := ⟨_, ⟨rfl⟩⟩
      rw [HC.out] at hcap
      go_wp2_with fail
      refine (uint_some b r w0.heap.size _ HR.out).mono ?_
      rintro e w4 ⟨he1, h1, h2⟩
      rw [HN.out, HE.out] at he1
      subst he1
      have HTE1 := Aside0.mk (HTE.out.read h1 h2)
      have HP1 := Aside0.mk (blk_grown HP.out h2 (by have := HN6.out; simpa using this))
      clear h1 h2
      go_upto_region 8 with fail
      clear q_
      by_cases he : e_ = 0
      · have hz : (e_ != 0) = false := by simpa using he
        have HI2 := HI.out.next (by omega) (HE.out.trans he)
        rw [HN.out, HC.out] at HI2
        have HI3 := Aside0.mk HI2
        clear HI2
        have c0_ : w4.cell? ⟨g5, 2, none⟩ = some (.int .i64 v2) := (blk_cell HTE1.out.b5 2).trans rfl
        have f0_ := blk_frozen HTE1.out.b5 2
        go_upto_region 11 with fail
        clear c0_ f0_
        replace HP1 := Aside0.mk (blk_far HP1.out (p := ⟨g5, 2, none⟩) HN65.out (.int .i64 c_))
        replace HTE1 := Aside0.mk (HTE1.out.put 2 (.int .i64 c_) (cs' := #[.int .i64 v0, .int .i64 v1, .int .i64 c_, .int .i64 v3, .int .i64 v4, .int .i64 0, .int .i64 0, .int .i64 0, .bool false, .slice none 0 0, .slice none 0 0]) rfl)
        generalize w4.setCell ⟨g5, 2, none⟩ (.int .i64 c_) = w5 at HTE1 HP1 ⊢
        go_wp2
        refine ⟨?_, by simp [intOf]⟩
        exact ⟨3, v0, v1, c_, v3, v4, _, by omega, rfl, HTE1, HP1, HI3⟩
      · have hz : (e_ != 0) = true := by simpa using he
        have HBAD := Aside0.mk (HI.out.bad (by omega) (by rw [HE.out]; exact he))
        rw [HE.out] at HBAD
        have he2 := Aside0.mk he
        clear he
        obtain rfl : q = (zeroE, e_) := by rw [← HQ.out]; unfold toEnt; simp only; rw [HBAD.out, if_pos he2.out]
        have d0_ := (blk_cell HTE1.out.b2 0).trans (rfl : _ = some (.int .i64 0 : Value))
        have d1_ := (blk_cell HTE1.out.b2 1).trans (rfl : _ = some (.int .i64 0 : Value))
        have d2_ := (blk_cell HTE1.out.b2 2).trans (rfl : _ = some (.int .i64 0 : Value))
        have d3_ := (blk_cell HTE1.out.b2 3).trans (rfl : _ = some (.int .i64 0 : Value))
        have d4_ := (blk_cell HTE1.out.b2 4).trans (rfl : _ = some (.int .i64 0 : Value))
        have d5_ := (blk_cell HTE1.out.b2 5).trans (rfl : _ = some (.int .i64 0 : Value))
        have d6_ := (blk_cell HTE1.out.b2 6).trans (rfl : _ = some (.int .i64 0 : Value))
        have d7_ := (blk_cell HTE1.out.b2 7).trans (rfl : _ = some (.int .i64 0 : Value))
        have d8_ := (blk_cell HTE1.out.b2 8).trans (rfl : _ = some (.bool false : Value))
        have d9_ := (blk_cell HTE1.out.b2 9).trans (rfl : _ = some (.slice none 0 0 : Value))
        have d10_ := (blk_cell HTE1.out.b2 10).trans (rfl : _ = some (.slice none 0 0 : Value))
        have k0_ := blk_frozen HTE1.out.b2 0
        have k1_ := blk_frozen HTE1.out.b2 1
        have k2_ := blk_frozen HTE1.out.b2 2
        have k3_ := blk_frozen HTE1.out.b2 3
        have k4_ := blk_frozen HTE1.out.b2 4
        have k5_ := blk_frozen HTE1.out.b2 5
        have k6_ := blk_frozen HTE1.out.b2 6
        have k7_ := blk_frozen HTE1.out.b2 7
        have k8_ := blk_frozen HTE1.out.b2 8
        have k9_ := blk_frozen HTE1.out.b2 9
        have k10_ := blk_frozen HTE1.out.b2 10
        go_wp2
        have B_ := blk_put (blk_put (blk_put (blk_put (blk_put (blk_put (blk_put (blk_put (blk_put (blk_put (blk_put (HTE1.out.b2) 0 (.int .i64 0) rfl) 1 (.int .i64 0) rfl) 2 (.int .i64 0) rfl) 3 (.int .i64 0) rfl) 4 (.int .i64 0) rfl) 5 (.int .i64 0) rfl) 6 (.int .i64 0) rfl) 7 (.int .i64 0) rfl) 8 (.bool false) rfl) 9 (.slice none 0 0) rfl) 10 (.slice none 0 0) rfl
        have G_ := below_set (j := 10) (v := .slice none 0 0) (below_set (j := 9) (v := .slice none 0 0) (below_set (j := 8) (v := .bool false) (below_set (j := 7) (v := .int .i64 0) (below_set (j := 6) (v := .int .i64 0) (below_set (j := 5) (v := .int .i64 0) (below_set (j := 4) (v := .int .i64 0) (below_set (j := 3) (v := .int .i64 0) (below_set (j := 2) (v := .int .i64 0) (below_set (j := 1) (v := .int .i64 0) (below_set (j := 0) (v := .int .i64 0) (HTE1.out.hb) HTE1.out.l2) HTE1.out.l2) HTE1.out.l2) HTE1.out.l2) HTE1.out.l2) HTE1.out.l2) HTE1.out.l2) HTE1.out.l2) HTE1.out.l2) HTE1.out.l2) HTE1.out.l2
        generalize (((((((((((w4).setCell ⟨g2, 0, none⟩ (.int .i64 0)).setCell ⟨g2, 1, none⟩ (.int .i64 0)).setCell ⟨g2, 2, none⟩ (.int .i64 0)).setCell ⟨g2, 3, none⟩ (.int .i64 0)).setCell ⟨g2, 4, none⟩ (.int .i64 0)).setCell ⟨g2, 5, none⟩ (.int .i64 0)).setCell ⟨g2, 6, none⟩ (.int .i64 0)).setCell ⟨g2, 7, none⟩ (.int .i64 0)).setCell ⟨g2, 8, none⟩ (.bool false)).setCell ⟨g2, 9, none⟩ (.slice none 0 0)).setCell ⟨g2, 10, none⟩ (.slice none 0 0) = w99 at B_ G_ ⊢
        have p0_ : w99.cell? ⟨g2, 0, none⟩ = some (.int .i64 0) := (blk_cell B_ 0).trans rfl
        have p1_ : w99.cell? ⟨g2, 1, none⟩ = some (.int .i64 0) := (blk_cell B_ 1).trans rfl
        have p2_ : w99.cell? ⟨g2, 2, none⟩ = some (.int .i64 0) := (blk_cell B_ 2).trans rfl
        have p3_ : w99.cell? ⟨g2, 3, none⟩ = some (.int .i64 0) := (blk_cell B_ 3).trans rfl
        have p4_ : w99.cell? ⟨g2, 4, none⟩ = some (.int .i64 0) := (blk_cell B_ 4).trans rfl
        have p5_ : w99.cell? ⟨g2, 5, none⟩ = some (.int .i64 0) := (blk_cell B_ 5).trans rfl
        have p6_ : w99.cell? ⟨g2, 6, none⟩ = some (.int .i64 0) := (blk_cell B_ 6).trans rfl
        have p7_ : w99.cell? ⟨g2, 7, none⟩ = some (.int .i64 0) := (blk_cell B_ 7).trans rfl
        have p8_ : w99.cell? ⟨g2, 8, none⟩ = some (.bool false) := (blk_cell B_ 8).trans rfl
        have p9_ : w99.cell? ⟨g2, 9, none⟩ = some (.slice none 0 0) := (blk_cell B_ 9).trans rfl
        have p10_ : w99.cell? ⟨g2, 10, none⟩ = some (.slice none 0 0) := (blk_cell B_ 10).trans rfl
        refine bodyPost_ret (v := .tuple #[.agg #[.int .i64 0, .int .i64 0, .int .i64 0, .int .i64 0, .int .i64 0, .int .i64 0, .int .i64 0, .int .i64 0, .bool false, .slice none 0 0, .slice none 0 0], .int .i64 e_]) (by simp [results, Try.results18, go_sem, p0_, p1_, p2_, p3_, p4_, p5_, p6_, p7_, p8_, p9_, p10_]) rfl ?_
        exact ⟨.slice none 0 0, .slice none 0 0, rfl, Kd.R_nil _ _ _ _ _, Kd.R_nil _ _ _ _ _, G_⟩
    · have HR := Aside0.mk HTE.out.rd
      have HX := Aside0.mk (rdU_range HR.out.byt)
      obtain ⟨n_, HN⟩ : ∃ s, Aside0 ((rdU r).1 = s) := ⟨_, ⟨rfl⟩⟩
      obtain ⟨e_, HE⟩ : ∃ s, Aside0 ((rdU r).2.1 = s) := ⟨_, ⟨rfl⟩⟩
      rw [HN.out] at HX
      have hcap := cap_mn HX.out.1 HX.out.2
      have q_ : wr.cell? ⟨g6, 3, none⟩ = some (.pointer (some ⟨g5, 3, none⟩)) := (blk_cell HP.out 3).trans rfl
      obtain ⟨c_, HC⟩ : ∃ s, Aside0 (cap n_ = s) := ⟨_, ⟨rfl⟩⟩
      rw [HC.out] at hcap
      go_wp2_with fail
      refine (uint_some b r w0.heap.size _ HR.out).mono ?_
      rintro e w4 ⟨he1, h1, h2⟩
      rw [HN.out, HE.out] at he1
      subst he1
      have HTE1 := Aside0.mk (HTE.out.read h1 h2)
      have HP1 := Aside0.mk (blk_grown HP.out h2 (by have := HN6.out; simpa using this))
      clear h1 h2
      go_upto_region 8 with fail
      clear q_
      by_cases he : e_ = 0
      · have hz : (e_ != 0) = false := by simpa using he
        have HI2 := HI.out.next (by omega) (HE.out.trans he)
        rw [HN.out, HC.out] at HI2
        have HI3 := Aside0.mk HI2
        clear HI2
        have c0_ : w4.cell? ⟨g5, 3, none⟩ = some (.int .i64 v3) := (blk_cell HTE1.out.b5 3).trans rfl
        have f0_ := blk_frozen HTE1.out.b5 3
        go_upto_region 11 with fail
        clear c0_ f0_
        replace HP1 := Aside0.mk (blk_far HP1.out (p := ⟨g5, 3, none⟩) HN65.out (.int .i64 c_))
        replace HTE1 := Aside0.mk (HTE1.out.put 3 (.int .i64 c_) (cs' := #[.int .i64 v0, .int .i64 v1, .int .i64 v2, .int .i64 c_, .int .i64 v4, .int .i64 0, .int .i64 0, .int .i64 0, .bool false, .slice none 0 0, .slice none 0 0]) rfl)
        generalize w4.setCell ⟨g5, 3, none⟩ (.int .i64 c_) = w5 at HTE1 HP1 ⊢
        go_wp2
        refine ⟨?_, by simp [intOf]⟩
        exact ⟨4, v0, v1, v2, c_, v4, _, by omega, rfl, HTE1, HP1, HI3⟩
      · have hz : (e_ != 0) = true := by simpa using he
        have HBAD := Aside0.mk (HI.out.bad (by omega) (by rw [HE.out]; exact he))
        rw [HE.out] at HBAD
        have he2 := Aside0.mk he
        clear he
        obtain rfl : q = (zeroE, e_) := by rw [← HQ.out]; unfold toEnt; simp only; rw [HBAD.out, if_pos he2.out]
        have d0_ := (blk_cell HTE1.out.b2 0).trans (rfl : _ = some (.int .i64 0 : Value))
        have d1_ := (blk_cell HTE1.out.b2 1).trans (rfl : _ = some (.int .i64 0 : Value))
        have d2_ := (blk_cell HTE1.out.b2 2).trans (rfl : _ = some (.int .i64 0 : Value))
        have d3_ := (blk_cell HTE1.out.b2 3).trans (rfl : _ = some (.int .i64 0 : Value))
        have d4_ := (blk_cell HTE1.out.b2 4).trans (rfl : _ = some (.int .i64 0 : Value))
        have d5_ := (blk_cell HTE1.out.b2 5).trans (rfl : _ = some (.int .i64 0 : Value))
        have d6_ := (blk_cell HTE1.out.b2 6).trans (rfl : _ = some (.int .i64 0 : Value))
        have d7_ := (blk_cell HTE1.out.b2 7).trans (rfl : _ = some (.int .i64 0 : Value))
        have d8_ := (blk_cell HTE1.out.b2 8).trans (rfl : _ = some (.bool false : Value))
        have d9_ := (blk_cell HTE1.out.b2 9).trans (rfl : _ = some (.slice none 0 0 : Value))
        have d10_ := (blk_cell HTE1.out.b2 10).trans (rfl : _ = some (.slice none 0 0 : Value))
        have k0_ := blk_frozen HTE1.out.b2 0
        have k1_ := blk_frozen HTE1.out.b2 1
        have k2_ := blk_frozen HTE1.out.b2 2
        have k3_ := blk_frozen HTE1.out.b2 3
        have k4_ := blk_frozen HTE1.out.b2 4
        have k5_ := blk_frozen HTE1.out.b2 5
        have k6_ := blk_frozen HTE1.out.b2 6
        have k7_ := blk_frozen HTE1.out.b2 7
        have k8_ := blk_frozen HTE1.out.b2 8
        have k9_ := blk_frozen HTE1.out.b2 9
        have k10_ := blk_frozen HTE1.out.b2 10
        go_wp2
        have B_ := blk_put (blk_put (blk_put (blk_put (blk_put (blk_put (blk_put (blk_put (blk_put (blk_put (blk_put (HTE1.out.b2) 0 (.int .i64 0) rfl) 1 (.int .i64 0) rfl) 2 (.int .i64 0) rfl) 3 (.int .i64 0) rfl) 4 (.int .i64 0) rfl) 5 (.int .i64 0) rfl) 6 (.int .i64 0) rfl) 7 (.int .i64 0) rfl) 8 (.bool false) rfl) 9 (.slice none 0 0) rfl) 10 (.slice none 0 0) rfl
        have G_ := below_set (j := 10) (v := .slice none 0 0) (below_set (j := 9) (v := .slice none 0 0) (below_set (j := 8) (v := .bool false) (below_set (j := 7) (v := .int .i64 0) (below_set (j := 6) (v := .int .i64 0) (below_set (j := 5) (v := .int .i64 0) (below_set (j := 4) (v := .int .i64 0) (below_set (j := 3) (v := .int .i64 0) (below_set (j := 2) (v := .int .i64 0) (below_set (j := 1) (v := .int .i64 0) (below_set (j := 0) (v := .int .i64 0) (HTE1.out.hb) HTE1.out.l2) HTE1.out.l2) HTE1.out.l2) HTE1.out.l2) HTE1.out.l2) HTE1.out.l2) HTE1.out.l2) HTE1.out.l2) HTE1.out.l2) HTE1.out.l2) HTE1.out.l2
        generalize (((((((((((w4).setCell ⟨g2, 0, none⟩ (.int .i64 0)).setCell ⟨g2, 1, none⟩ (.int .i64 0)).setCell ⟨g2, 2, none⟩ (.int .i64 0)).setCell ⟨g2, 3, none⟩ (.int .i64 0)).setCell ⟨g2, 4, none⟩ (.int .i64 0)).setCell ⟨g2, 5, none⟩ (.int .i64 0)).setCell ⟨g2, 6, none⟩ (.int .i64 0)).setCell ⟨g2, 7, none⟩ (.int .i64 0)).setCell ⟨g2, 8, none⟩ (.bool false)).setCell ⟨g2, 9, none⟩ (.slice none 0 0)).setCell ⟨g2, 10, none⟩ (.slice none 0 0) = w99 at B_ G_ ⊢
        have p0_ : w99.cell? ⟨g2, 0, none⟩ = some (.int .i64 0) := (blk_cell B_ 0).trans rfl
        have p1_ : w99.cell? ⟨g2, 1, none⟩ = some (.int .i64 0) := (blk_cell B_ 1).trans rfl
        have p2_ : w99.cell? ⟨g2, 2, none⟩ = some (.int .i64 0) := (blk_cell B_ 2).trans rfl
        have p3_ : w99.cell? ⟨g2, 3, none⟩ = some (.int .i64 0) := (blk_cell B_ 3).trans rfl
        have p4_ : w99.cell? ⟨g2, 4, none⟩ = some (.int .i64 0) := (blk_cell B_ 4).trans rfl
        have p5_ : w99.cell? ⟨g2, 5, none⟩ = some (.int .i64 0) := (blk_cell B_ 5).trans rfl
        have p6_ : w99.cell? ⟨g2, 6, none⟩ = some (.int .i64 0) := (blk_cell B_ 6).trans rfl
        have p7_ : w99.cell? ⟨g2, 7, none⟩ = some (.int .i64 0) := (blk_cell B_ 7).trans rfl
        have p8_ : w99.cell? ⟨g2, 8, none⟩ = some (.bool false) := (blk_cell B_ 8).trans rfl
        have p9_ : w99.cell? ⟨g2, 9, none⟩ = some (.slice none 0 0) := (blk_cell B_ 9).trans rfl
        have p10_ : w99.cell? ⟨g2, 10, none⟩ = some (.slice none 0 0) := (blk_cell B_ 10).trans rfl
        refine bodyPost_ret (v := .tuple #[.agg #[.int .i64 0, .int .i64 0, .int .i64 0, .int .i64 0, .int .i64 0, .int .i64 0, .int .i64 0, .int .i64 0, .bool false, .slice none 0 0, .slice none 0 0], .int .i64 e_]) (by simp [results, Try.results18, go_sem, p0_, p1_, p2_, p3_, p4_, p5_, p6_, p7_, p8_, p9_, p10_]) rfl ?_
        exact ⟨.slice none 0 0, .slice none 0 0, rfl, Kd.R_nil _ _ _ _ _, Kd.R_nil _ _ _ _ _, G_⟩
    · have HR := Aside0.mk HTE.out.rd
      have HX := Aside0.mk (rdU_range HR.out.byt)
      obtain ⟨n_, HN⟩ : ∃ s, Aside0 ((rdU r).1 = s) := ⟨_, ⟨rfl⟩⟩
      obtain ⟨e_, HE⟩ : ∃ s, Aside0 ((rdU r).2.1 = s) := ⟨_, ⟨rfl⟩⟩
      rw [HN.out] at HX
      have hcap := cap_mn HX.out.1 HX.out.2
      have q_ : wr.cell? ⟨g6, 4, none⟩ = some (.pointer (some ⟨g5, 4, none⟩)) := (blk_cell HP.out 4).trans rfl
      obtain ⟨c_, HC⟩ : ∃ s, Aside0 (cap n_ = s) := ⟨_, ⟨rfl⟩⟩
      rw [HC.out] at hcap
      go_wp2_with fail
      refine (uint_some b r w0.heap.size _ HR.out).mono ?_
      rintro e w4 ⟨he1, h1, h2⟩
      rw [HN.out, HE.out] at he1
      subst he1
      have HTE1 := Aside0.mk (HTE.out.read h1 h2)
      have HP1 := Aside0.mk (blk_grown HP.out h2 (by have := HN6.out; simpa using this))
      clear h1 h2
      go_upto_region 8 with fail
      clear q_
      by_cases he : e_ = 0
      · have hz : (e_ != 0) = false := by simpa using he
        have HI2 := HI.out.next (by omega) (HE.out.trans he)
        rw [HN.out, HC.out] at HI2
        have HI3 := Aside0.mk HI2
        clear HI2
        have c0_ : w4.cell? ⟨g5, 4, none⟩ = some (.int .i64 v4) := (blk_cell HTE1.out.b5 4).trans rfl
        have f0_ := blk_frozen HTE1.out.b5 4
        go_upto_region 11 with fail
        clear c0_ f0_
        replace HP1 := Aside0.mk (blk_far HP1.out (p := ⟨g5, 4, none⟩) HN65.out (.int .i64 c_))
        replace HTE1 := Aside0.mk (HTE1.out.put 4 (.int .i64 c_) (cs' := #[.int .i64 v0, .int .i64 v1, .int .i64 v2, .int .i64 v3, .int .i64 c_, .int .i64 0, .int .i64 0, .int .i64 0, .bool false, .slice none 0 0, .slice none 0 0]) rfl)
        generalize w4.setCell ⟨g5, 4, none⟩ (.int .i64 c_) = w5 at HTE1 HP1 ⊢
        go_wp2
        refine ⟨?_, by simp [intOf]⟩
        exact ⟨5, v0, v1, v2, v3, c_, _, by omega, rfl, HTE1, HP1, HI3⟩
      · have hz : (e_ != 0) = true := by simpa using he
        have HBAD := Aside0.mk (HI.out.bad (by omega) (by rw [HE.out]; exact he))
        rw [HE.out] at HBAD
        have he2 := Aside0.mk he
        clear he
        obtain rfl : q = (zeroE, e_) := by rw [← HQ.out]; unfold toEnt; simp only; rw [HBAD.out, if_pos he2.out]
        have d0_ := (blk_cell HTE1.out.b2 0).trans (rfl : _ = some (.int .i64 0 : Value))
        have d1_ := (blk_cell HTE1.out.b2 1).trans (rfl : _ = some (.int .i64 0 : Value))
        have d2_ := (blk_cell HTE1.out.b2 2).trans (rfl : _ = some (.int .i64 0 : Value))
        have d3_ := (blk_cell HTE1.out.b2 3).trans (rfl : _ = some (.int .i64 0 : Value))
        have d4_ := (blk_cell HTE1.out.b2 4).trans (rfl : _ = some (.int .i64 0 : Value))
        have d5_ := (blk_cell HTE1.out.b2 5).trans (rfl : _ = some (.int .i64 0 : Value))
        have d6_ := (blk_cell HTE1.out.b2 6).trans (rfl : _ = some (.int .i64 0 : Value))
        have d7_ := (blk_cell HTE1.out.b2 7).trans (rfl : _ = some (.int .i64 0 : Value))
        have d8_ := (blk_cell HTE1.out.b2 8).trans (rfl : _ = some (.bool false : Value))
        have d9_ := (blk_cell HTE1.out.b2 9).trans (rfl : _ = some (.slice none 0 0 : Value))
        have d10_ := (blk_cell HTE1.out.b2 10).trans (rfl : _ = some (.slice none 0 0 : Value))
        have k0_ := blk_frozen HTE1.out.b2 0
        have k1_ := blk_frozen HTE1.out.b2 1
        have k2_ := blk_frozen HTE1.out.b2 2
        have k3_ := blk_frozen HTE1.out.b2 3
        have k4_ := blk_frozen HTE1.out.b2 4
        have k5_ := blk_frozen HTE1.out.b2 5
        have k6_ := blk_frozen HTE1.out.b2 6
        have k7_ := blk_frozen HTE1.out.b2 7
        have k8_ := blk_frozen HTE1.out.b2 8
        have k9_ := blk_frozen HTE1.out.b2 9
        have k10_ := blk_frozen HTE1.out.b2 10
        go_wp2
        have B_ := blk_put (blk_put (blk_put (blk_put (blk_put (blk_put (blk_put (blk_put (blk_put (blk_put (blk_put (HTE1.out.b2) 0 (.int .i64 0) rfl) 1 (.int .i64 0) rfl) 2 (.int .i64 0) rfl) 3 (.int .i64 0) rfl) 4 (.int .i64 0) rfl) 5 (.int .i64 0) rfl) 6 (.int .i64 0) rfl) 7 (.int .i64 0) rfl) 8 (.bool false) rfl) 9 (.slice none 0 0) rfl) 10 (.slice none 0 0) rfl
        have G_ := below_set (j := 10) (v := .slice none 0 0) (below_set (j := 9) (v := .slice none 0 0) (below_set (j := 8) (v := .bool false) (below_set (j := 7) (v := .int .i64 0) (below_set (j := 6) (v := .int .i64 0) (below_set (j := 5) (v := .int .i64 0) (below_set (j := 4) (v := .int .i64 0) (below_set (j := 3) (v := .int .i64 0) (below_set (j := 2) (v := .int .i64 0) (below_set (j := 1) (v := .int .i64 0) (below_set (j := 0) (v := .int .i64 0) (HTE1.out.hb) HTE1.out.l2) HTE1.out.l2) HTE1.out.l2) HTE1.out.l2) HTE1.out.l2) HTE1.out.l2) HTE1.out.l2) HTE1.out.l2) HTE1.out.l2) HTE1.out.l2) HTE1.out.l2
        generalize (((((((((((w4).setCell ⟨g2, 0, none⟩ (.int .i64 0)).setCell ⟨g2, 1, none⟩ (.int .i64 0)).setCell ⟨g2, 2, none⟩ (.int .i64 0)).setCell ⟨g2, 3, none⟩ (.int .i64 0)).setCell ⟨g2, 4, none⟩ (.int .i64 0)).setCell ⟨g2, 5, none⟩ (.int .i64 0)).setCell ⟨g2, 6, none⟩ (.int .i64 0)).setCell ⟨g2, 7, none⟩ (.int .i64 0)).setCell ⟨g2, 8, none⟩ (.bool false)).setCell ⟨g2, 9, none⟩ (.slice none 0 0)).setCell ⟨g2, 10, none⟩ (.slice none 0 0) = w99 at B_ G_ ⊢
        have p0_ : w99.cell? ⟨g2, 0, none⟩ = some (.int .i64 0) := (blk_cell B_ 0).trans rfl
        have p1_ : w99.cell? ⟨g2, 1, none⟩ = some (.int .i64 0) := (blk_cell B_ 1).trans rfl
        have p2_ : w99.cell? ⟨g2, 2, none⟩ = some (.int .i64 0) := (blk_cell B_ 2).trans rfl
        have p3_ : w99.cell? ⟨g2, 3, none⟩ = some (.int .i64 0) := (blk_cell B_ 3).trans rfl
        have p4_ : w99.cell? ⟨g2, 4, none⟩ = some (.int .i64 0) := (blk_cell B_ 4).trans rfl
        have p5_ : w99.cell? ⟨g2, 5, none⟩ = some (.int .i64 0) := (blk_cell B_ 5).trans rfl
        have p6_ : w99.cell? ⟨g2, 6, none⟩ = some (.int .i64 0) := (blk_cell B_ 6).trans rfl
        have p7_ : w99.cell? ⟨g2, 7, none⟩ = some (.int .i64 0) := (blk_cell B_ 7).trans rfl
        have p8_ : w99.cell? ⟨g2, 8, none⟩ = some (.bool false) := (blk_cell B_ 8).trans rfl
        have p9_ : w99.cell? ⟨g2, 9, none⟩ = some (.slice none 0 0) := (blk_cell B_ 9).trans rfl
        have p10_ : w99.cell? ⟨g2, 10, none⟩ = some (.slice none 0 0) := (blk_cell B_ 10).trans rfl
        refine bodyPost_ret (v := .tuple #[.agg #[.int .i64 0, .int .i64 0, .int .i64 0, .int .i64 0, .int .i64 0, .int .i64 0, .int .i64 0, .int .i64 0, .bool false, .slice none 0 0, .slice none 0 0], .int .i64 e_]) (by simp [results, Try.results18, go_sem, p0_, p1_, p2_, p3_, p4_, p5_, p6_, p7_, p8_, p9_, p10_]) rfl ?_
        exact ⟨.slice none 0 0, .slice none 0 0, rfl, Kd.R_nil _ _ _ _ _, Kd.R_nil _ _ _ _ _, G_⟩
    · have HN : Aside0 (nums5 5 l0 = ([v0, v1, v2, v3, v4], 0, r)) := ⟨by have h := HI.out; unfold Inv5 at h; rw [h]; simp [nums5]⟩
      clear HI HP
      have HR := Aside0.mk HTE.out.rd
      obtain ⟨q6, H6⟩ : ∃ q, Aside0 (rec3 r = q) := ⟨_, ⟨rfl⟩⟩
      go_wp2_with fail
      refine (record_ok2 b r w0.heap.size _ HR.out).mono ?_
      rintro e w6 ⟨he_, ⟨r6, hr_, h6_⟩, hg_⟩
      rw [H6.out] at he_ h6_
      subst he_
      obtain ⟨⟨y0, y1, y2⟩, e6, z6⟩ := q6
      simp only at h6_
      have HT6 := Aside0.mk (HTE.out.read hr_ hg_)
      have HZ6 := Aside0.mk h6_
      clear hr_ hg_ h6_ HTE HR
      have c5_ : w6.cell? ⟨g5, 5, none⟩ = some (.int .i64 0) := (blk_cell HT6.out.b5 5).trans rfl
      have c6_ : w6.cell? ⟨g5, 6, none⟩ = some (.int .i64 0) := (blk_cell HT6.out.b5 6).trans rfl
      have c7_ : w6.cell? ⟨g5, 7, none⟩ = some (.int .i64 0) := (blk_cell HT6.out.b5 7).trans rfl
      have f5_ := blk_frozen HT6.out.b5 5
      have f6_ := blk_frozen HT6.out.b5 6
      have f7_ := blk_frozen HT6.out.b5 7
      go_upto_region 13 with fail
      clear c5_ c6_ c7_ f5_ f6_ f7_
      replace HT6 := Aside0.mk (((HT6.out.put 5 (.int .i64 y0) (cs' := #[.int .i64 v0, .int .i64 v1, .int .i64 v2, .int .i64 v3, .int .i64 v4, .int .i64 y0, .int .i64 0, .int .i64 0, .bool false, .slice none 0 0, .slice none 0 0]) rfl).put 6 (.int .i64 y1) (cs' := #[.int .i64 v0, .int .i64 v1, .int .i64 v2, .int .i64 v3, .int .i64 v4, .int .i64 y0, .int .i64 y1, .int .i64 0, .bool false, .slice none 0 0, .slice none 0 0]) rfl).put 7 (.int .i64 y2) (cs' := #[.int .i64 v0, .int .i64 v1, .int .i64 v2, .int .i64 v3, .int .i64 v4, .int .i64 y0, .int .i64 y1, .int .i64 y2, .bool false, .slice none 0 0, .slice none 0 0]) rfl)
      generalize ((w6.setCell ⟨g5, 5, none⟩ (.int .i64 y0)).setCell ⟨g5, 6, none⟩ (.int .i64 y1)).setCell ⟨g5, 7, none⟩ (.int .i64 y2) = w7 at HT6 ⊢
      by_cases he : e6 = 0
      rotate_left
      · have hz : (e6 != 0) = true := by simpa using he
        have he2 := Aside0.mk he
        clear he
        obtain rfl : q = (zeroE, e6) := by rw [← HQ.out]; unfold toEnt; simp only; rw [HN.out, if_neg (by simp), H6.out, if_pos he2.out]
        have d0_ := (blk_cell HT6.out.b2 0).trans (rfl : _ = some (.int .i64 0 : Value))
        have d1_ := (blk_cell HT6.out.b2 1).trans (rfl : _ = some (.int .i64 0 : Value))
        have d2_ := (blk_cell HT6.out.b2 2).trans (rfl : _ = some (.int .i64 0 : Value))
        have d3_ := (blk_cell HT6.out.b2 3).trans (rfl : _ = some (.int .i64 0 : Value))
        have d4_ := (blk_cell HT6.out.b2 4).trans (rfl : _ = some (.int .i64 0 : Value))
        have d5_ := (blk_cell HT6.out.b2 5).trans (rfl : _ = some (.int .i64 0 : Value))
        have d6_ := (blk_cell HT6.out.b2 6).trans (rfl : _ = some (.int .i64 0 : Value))
        have d7_ := (blk_cell HT6.out.b2 7).trans (rfl : _ = some (.int .i64 0 : Value))
        have d8_ := (blk_cell HT6.out.b2 8).trans (rfl : _ = some (.bool false : Value))
        have d9_ := (blk_cell HT6.out.b2 9).trans (rfl : _ = some (.slice none 0 0 : Value))
        have d10_ := (blk_cell HT6.out.b2 10).trans (rfl : _ = some (.slice none 0 0 : Value))
        have k0_ := blk_frozen HT6.out.b2 0
        have k1_ := blk_frozen HT6.out.b2 1
        have k2_ := blk_frozen HT6.out.b2 2
        have k3_ := blk_frozen HT6.out.b2 3
        have k4_ := blk_frozen HT6.out.b2 4
        have k5_ := blk_frozen HT6.out.b2 5
        have k6_ := blk_frozen HT6.out.b2 6
        have k7_ := blk_frozen HT6.out.b2 7
        have k8_ := blk_frozen HT6.out.b2 8
        have k9_ := blk_frozen HT6.out.b2 9
        have k10_ := blk_frozen HT6.out.b2 10
        go_wp2
        have B_ := blk_put (blk_put (blk_put (blk_put (blk_put (blk_put (blk_put (blk_put (blk_put (blk_put (blk_put (HT6.out.b2) 0 (.int .i64 0) rfl) 1 (.int .i64 0) rfl) 2 (.int .i64 0) rfl) 3 (.int .i64 0) rfl) 4 (.int .i64 0) rfl) 5 (.int .i64 0) rfl) 6 (.int .i64 0) rfl) 7 (.int .i64 0) rfl) 8 (.bool false) rfl) 9 (.slice none 0 0) rfl) 10 (.slice none 0 0) rfl
        have G_ := below_set (j := 10) (v := .slice none 0 0) (below_set (j := 9) (v := .slice none 0 0) (below_set (j := 8) (v := .bool false) (below_set (j := 7) (v := .int .i64 0) (below_set (j := 6) (v := .int .i64 0) (below_set (j := 5) (v := .int .i64 0) (below_set (j := 4) (v := .int .i64 0) (below_set (j := 3) (v := .int .i64 0) (below_set (j := 2) (v := .int .i64 0) (below_set (j := 1) (v := .int .i64 0) (below_set (j := 0) (v := .int .i64 0) (HT6.out.hb) HT6.out.l2) HT6.out.l2) HT6.out.l2) HT6.out.l2) HT6.out.l2) HT6.out.l2) HT6.out.l2) HT6.out.l2) HT6.out.l2) HT6.out.l2) HT6.out.l2
        generalize (((((((((((w7).setCell ⟨g2, 0, none⟩ (.int .i64 0)).setCell ⟨g2, 1, none⟩ (.int .i64 0)).setCell ⟨g2, 2, none⟩ (.int .i64 0)).setCell ⟨g2, 3, none⟩ (.int .i64 0)).setCell ⟨g2, 4, none⟩ (.int .i64 0)).setCell ⟨g2, 5, none⟩ (.int .i64 0)).setCell ⟨g2, 6, none⟩ (.int .i64 0)).setCell ⟨g2, 7, none⟩ (.int .i64 0)).setCell ⟨g2, 8, none⟩ (.bool false)).setCell ⟨g2, 9, none⟩ (.slice none 0 0)).setCell ⟨g2, 10, none⟩ (.slice none 0 0) = w99 at B_ G_ ⊢
        have p0_ : w99.cell? ⟨g2, 0, none⟩ = some (.int .i64 0) := (blk_cell B_ 0).trans rfl
        have p1_ : w99.cell? ⟨g2, 1, none⟩ = some (.int .i64 0) := (blk_cell B_ 1).trans rfl
        have p2_ : w99.cell? ⟨g2, 2, none⟩ = some (.int .i64 0) := (blk_cell B_ 2).trans rfl
        have p3_ : w99.cell? ⟨g2, 3, none⟩ = some (.int .i64 0) := (blk_cell B_ 3).trans rfl
        have p4_ : w99.cell? ⟨g2, 4, none⟩ = some (.int .i64 0) := (blk_cell B_ 4).trans rfl
        have p5_ : w99.cell? ⟨g2, 5, none⟩ = some (.int .i64 0) := (blk_cell B_ 5).trans rfl
        have p6_ : w99.cell? ⟨g2, 6, none⟩ = some (.int .i64 0) := (blk_cell B_ 6).trans rfl
        have p7_ : w99.cell? ⟨g2, 7, none⟩ = some (.int .i64 0) := (blk_cell B_ 7).trans rfl
        have p8_ : w99.cell? ⟨g2, 8, none⟩ = some (.bool false) := (blk_cell B_ 8).trans rfl
        have p9_ : w99.cell? ⟨g2, 9, none⟩ = some (.slice none 0 0) := (blk_cell B_ 9).trans rfl
        have p10_ : w99.cell? ⟨g2, 10, none⟩ = some (.slice none 0 0) := (blk_cell B_ 10).trans rfl
        refine bodyPost_ret (v := .tuple #[.agg #[.int .i64 0, .int .i64 0, .int .i64 0, .int .i64 0, .int .i64 0, .int .i64 0, .int .i64 0, .int .i64 0, .bool false, .slice none 0 0, .slice none 0 0], .int .i64 e6]) (by simp [results, Try.results18, go_sem, p0_, p1_, p2_, p3_, p4_, p5_, p6_, p7_, p8_, p9_, p10_]) rfl ?_
        exact ⟨.slice none 0 0, .slice none 0 0, rfl, Kd.R_nil _ _ _ _ _, Kd.R_nil _ _ _ _ _, G_⟩
      have z6_ := he
      have hz6 : (e6 != 0) = false := by simpa using he
      clear he
      obtain rfl := HZ6.out z6_
      have HR := Aside0.mk HT6.out.rd
      have HX := Aside0.mk (rdU_range HR.out.byt)
      obtain ⟨n7, HN7⟩ : ∃ s, Aside0 ((rdU r6).1 = s) := ⟨_, ⟨rfl⟩⟩
      obtain ⟨e7, HE7⟩ : ∃ s, Aside0 ((rdU r6).2.1 = s) := ⟨_, ⟨rfl⟩⟩
      obtain ⟨r7, HR7⟩ : ∃ s, Aside0 ((rdU r6).2.2 = s) := ⟨_, ⟨rfl⟩⟩
      go_wp2_with fail
      refine (uint_some b r6 w0.heap.size _ HR.out).mono ?_
      rintro e w8 ⟨he1, h1, h2⟩
      rw [HN7.out, HE7.out] at he1
      rw [HR7.out] at h1
      subst he1
      have HT8 := Aside0.mk (HT6.out.read h1 h2)
      clear h1 h2 HT6 HR
      go_upto_region 16 with fail
      by_cases he : e7 = 0
      rotate_left
      · have hz : (e7 != 0) = true := by simpa using he
        have he2 := Aside0.mk he
        clear he
        obtain rfl : q = (zeroE, e7) := by rw [← HQ.out]; unfold toEnt; simp only; rw [HN.out, if_neg (by simp), H6.out, if_neg (by simp [z6_]), HE7.out, if_pos he2.out]
        have d0_ := (blk_cell HT8.out.b2 0).trans (rfl : _ = some (.int .i64 0 : Value))
        have d1_ := (blk_cell HT8.out.b2 1).trans (rfl : _ = some (.int .i64 0 : Value))
        have d2_ := (blk_cell HT8.out.b2 2).trans (rfl : _ = some (.int .i64 0 : Value))
        have d3_ := (blk_cell HT8.out.b2 3).trans (rfl : _ = some (.int .i64 0 : Value))
        have d4_ := (blk_cell HT8.out.b2 4).trans (rfl : _ = some (.int .i64 0 : Value))
        have d5_ := (blk_cell HT8.out.b2 5).trans (rfl : _ = some (.int .i64 0 : Value))
        have d6_ := (blk_cell HT8.out.b2 6).trans (rfl : _ = some (.int .i64 0 : Value))
        have d7_ := (blk_cell HT8.out.b2 7).trans (rfl : _ = some (.int .i64 0 : Value))
        have d8_ := (blk_cell HT8.out.b2 8).trans (rfl : _ = some (.bool false : Value))
        have d9_ := (blk_cell HT8.out.b2 9).trans (rfl : _ = some (.slice none 0 0 : Value))
        have d10_ := (blk_cell HT8.out.b2 10).trans (rfl : _ = some (.slice none 0 0 : Value))
        have k0_ := blk_frozen HT8.out.b2 0
        have k1_ := blk_frozen HT8.out.b2 1
        have k2_ := blk_frozen HT8.out.b2 2
        have k3_ := blk_frozen HT8.out.b2 3
        have k4_ := blk_frozen HT8.out.b2 4
        have k5_ := blk_frozen HT8.out.b2 5
        have k6_ := blk_frozen HT8.out.b2 6
        have k7_ := blk_frozen HT8.out.b2 7
        have k8_ := blk_frozen HT8.out.b2 8
        have k9_ := blk_frozen HT8.out.b2 9
        have k10_ := blk_frozen HT8.out.b2 10
        go_wp2
        have B_ := blk_put (blk_put (blk_put (blk_put (blk_put (blk_put (blk_put (blk_put (blk_put (blk_put (blk_put (HT8.out.b2) 0 (.int .i64 0) rfl) 1 (.int .i64 0) rfl) 2 (.int .i64 0) rfl) 3 (.int .i64 0) rfl) 4 (.int .i64 0) rfl) 5 (.int .i64 0) rfl) 6 (.int .i64 0) rfl) 7 (.int .i64 0) rfl) 8 (.bool false) rfl) 9 (.slice none 0 0) rfl) 10 (.slice none 0 0) rfl
        have G_ := below_set (j := 10) (v := .slice none 0 0) (below_set (j := 9) (v := .slice none 0 0) (below_set (j := 8) (v := .bool false) (below_set (j := 7) (v := .int .i64 0) (below_set (j := 6) (v := .int .i64 0) (below_set (j := 5) (v := .int .i64 0) (below_set (j := 4) (v := .int .i64 0) (below_set (j := 3) (v := .int .i64 0) (below_set (j := 2) (v := .int .i64 0) (below_set (j := 1) (v := .int .i64 0) (below_set (j := 0) (v := .int .i64 0) (HT8.out.hb) HT8.out.l2) HT8.out.l2) HT8.out.l2) HT8.out.l2) HT8.out.l2) HT8.out.l2) HT8.out.l2) HT8.out.l2) HT8.out.l2) HT8.out.l2) HT8.out.l2
        generalize (((((((((((w8).setCell ⟨g2, 0, none⟩ (.int .i64 0)).setCell ⟨g2, 1, none⟩ (.int .i64 0)).setCell ⟨g2, 2, none⟩ (.int .i64 0)).setCell ⟨g2, 3, none⟩ (.int .i64 0)).setCell ⟨g2, 4, none⟩ (.int .i64 0)).setCell ⟨g2, 5, none⟩ (.int .i64 0)).setCell ⟨g2, 6, none⟩ (.int .i64 0)).setCell ⟨g2, 7, none⟩ (.int .i64 0)).setCell ⟨g2, 8, none⟩ (.bool false)).setCell ⟨g2, 9, none⟩ (.slice none 0 0)).setCell ⟨g2, 10, none⟩ (.slice none 0 0) = w99 at B_ G_ ⊢
        have p0_ : w99.cell? ⟨g2, 0, none⟩ = some (.int .i64 0) := (blk_cell B_ 0).trans rfl
        have p1_ : w99.cell? ⟨g2, 1, none⟩ = some (.int .i64 0) := (blk_cell B_ 1).trans rfl
        have p2_ : w99.cell? ⟨g2, 2, none⟩ = some (.int .i64 0) := (blk_cell B_ 2).trans rfl
        have p3_ : w99.cell? ⟨g2, 3, none⟩ = some (.int .i64 0) := (blk_cell B_ 3).trans rfl
        have p4_ : w99.cell? ⟨g2, 4, none⟩ = some (.int .i64 0) := (blk_cell B_ 4).trans rfl
        have p5_ : w99.cell? ⟨g2, 5, none⟩ = some (.int .i64 0) := (blk_cell B_ 5).trans rfl
        have p6_ : w99.cell? ⟨g2, 6, none⟩ = some (.int .i64 0) := (blk_cell B_ 6).trans rfl
        have p7_ : w99.cell? ⟨g2, 7, none⟩ = some (.int .i64 0) := (blk_cell B_ 7).trans rfl
        have p8_ : w99.cell? ⟨g2, 8, none⟩ = some (.bool false) := (blk_cell B_ 8).trans rfl
        have p9_ : w99.cell? ⟨g2, 9, none⟩ = some (.slice none 0 0) := (blk_cell B_ 9).trans rfl
        have p10_ : w99.cell? ⟨g2, 10, none⟩ = some (.slice none 0 0) := (blk_cell B_ 10).trans rfl
        refine bodyPost_ret (v := .tuple #[.agg #[.int .i64 0, .int .i64 0, .int .i64 0, .int .i64 0, .int .i64 0, .int .i64 0, .int .i64 0, .int .i64 0, .bool false, .slice none 0 0, .slice none 0 0], .int .i64 e7]) (by simp [results, Try.results18, go_sem, p0_, p1_, p2_, p3_, p4_, p5_, p6_, p7_, p8_, p9_, p10_]) rfl ?_
        exact ⟨.slice none 0 0, .slice none 0 0, rfl, Kd.R_nil _ _ _ _ _, Kd.R_nil _ _ _ _ _, G_⟩
      have z7_ := he
      have hz7 : (e7 != 0) = false := by simpa using he
      clear he
      have HR := Aside0.mk HT8.out.rd
      obtain ⟨o8, HO8⟩ : ∃ q, Aside0 (rdL 8 r7 = q) := ⟨_, ⟨rfl⟩⟩
      go_wp2_with fail
      refine (ints_some b 8 r7 w0.heap.size _ HR.out (by omega) (by omega)).mono ?_
      rintro e w9 ⟨v9, he1, ho_, h1, h2⟩
      rw [HO8.out] at he1 ho_ h1
      subst he1
      obtain ⟨l9, e9, r9⟩ := o8
      simp only at ho_ h1
      replace ho_ := Kd.R_lower ho_ HT8.out.hb.size
      have HT9 := Aside0.mk (HT8.out.read h1 h2)
      clear h1 h2 HT8 HR
      obtain ⟨A9, c9, rfl⟩ := Kd.R_slice ho_
      have HV9 := Aside0.mk ho_
      clear ho_
      have c9_ : w9.cell? ⟨g5, 9, none⟩ = some (.slice none 0 0) := (blk_cell HT9.out.b5 9).trans rfl
      have f9_ := blk_frozen HT9.out.b5 9
      go_upto_region 19 with fail
      clear c9_ f9_
      replace HV9 := Aside0.mk (Kd.R_set HV9.out HT9.out.b5 (by decide) 9 (.slice A9 l9.length c9))
      replace HT9 := Aside0.mk (HT9.out.put 9 (.slice A9 l9.length c9) (cs' := #[.int .i64 v0, .int .i64 v1, .int .i64 v2, .int .i64 v3, .int .i64 v4, .int .i64 y0, .int .i64 y1, .int .i64 y2, .bool false, .slice A9 l9.length c9, .slice none 0 0]) rfl)
      generalize w9.setCell ⟨g5, 9, none⟩ (.slice A9 l9.length c9) = w10 at HT9 HV9 ⊢
      by_cases he : e9 = 0
      rotate_left
      · have hz : (e9 != 0) = true := by simpa using he
        have he2 := Aside0.mk he
        clear he
        obtain rfl : q = (zeroE, e9) := by rw [← HQ.out]; unfold toEnt; simp only; rw [HN.out, if_neg (by simp), H6.out, if_neg (by simp [z6_]), HE7.out, if_neg (by simp [z7_]), HR7.out, HO8.out, if_pos he2.out]
        have d0_ := (blk_cell HT9.out.b2 0).trans (rfl : _ = some (.int .i64 0 : Value))
        have d1_ := (blk_cell HT9.out.b2 1).trans (rfl : _ = some (.int .i64 0 : Value))
        have d2_ := (blk_cell HT9.out.b2 2).trans (rfl : _ = some (.int .i64 0 : Value))
        have d3_ := (blk_cell HT9.out.b2 3).trans (rfl : _ = some (.int .i64 0 : Value))
        have d4_ := (blk_cell HT9.out.b2 4).trans (rfl : _ = some (.int .i64 0 : Value))
        have d5_ := (blk_cell HT9.out.b2 5).trans (rfl : _ = some (.int .i64 0 : Value))
        have d6_ := (blk_cell HT9.out.b2 6).trans (rfl : _ = some (.int .i64 0 : Value))
        have d7_ := (blk_cell HT9.out.b2 7).trans (rfl : _ = some (.int .i64 0 : Value))
        have d8_ := (blk_cell HT9.out.b2 8).trans (rfl : _ = some (.bool false : Value))
        have d9_ := (blk_cell HT9.out.b2 9).trans (rfl : _ = some (.slice none 0 0 : Value))
        have d10_ := (blk_cell HT9.out.b2 10).trans (rfl : _ = some (.slice none 0 0 : Value))
        have k0_ := blk_frozen HT9.out.b2 0
        have k1_ := blk_frozen HT9.out.b2 1
        have k2_ := blk_frozen HT9.out.b2 2
        have k3_ := blk_frozen HT9.out.b2 3
        have k4_ := blk_frozen HT9.out.b2 4
        have k5_ := blk_frozen HT9.out.b2 5
        have k6_ := blk_frozen HT9.out.b2 6
        have k7_ := blk_frozen HT9.out.b2 7
        have k8_ := blk_frozen HT9.out.b2 8
        have k9_ := blk_frozen HT9.out.b2 9
        have k10_ := blk_frozen HT9.out.b2 10
        go_wp2
        have B_ := blk_put (blk_put (blk_put (blk_put (blk_put (blk_put (blk_put (blk_put (blk_put (blk_put (blk_put (HT9.out.b2) 0 (.int .i64 0) rfl) 1 (.int .i64 0) rfl) 2 (.int .i64 0) rfl) 3 (.int .i64 0) rfl) 4 (.int .i64 0) rfl) 5 (.int .i64 0) rfl) 6 (.int .i64 0) rfl) 7 (.int .i64 0) rfl) 8 (.bool false) rfl) 9 (.slice none 0 0) rfl) 10 (.slice none 0 0) rfl
        have G_ := below_set (j := 10) (v := .slice none 0 0) (below_set (j := 9) (v := .slice none 0 0) (below_set (j := 8) (v := .bool false) (below_set (j := 7) (v := .int .i64 0) (below_set (j := 6) (v := .int .i64 0) (below_set (j := 5) (v := .int .i64 0) (below_set (j := 4) (v := .int .i64 0) (below_set (j := 3) (v := .int .i64 0) (below_set (j := 2) (v := .int .i64 0) (below_set (j := 1) (v := .int .i64 0) (below_set (j := 0) (v := .int .i64 0) (HT9.out.hb) HT9.out.l2) HT9.out.l2) HT9.out.l2) HT9.out.l2) HT9.out.l2) HT9.out.l2) HT9.out.l2) HT9.out.l2) HT9.out.l2) HT9.out.l2) HT9.out.l2
        generalize (((((((((((w10).setCell ⟨g2, 0, none⟩ (.int .i64 0)).setCell ⟨g2, 1, none⟩ (.int .i64 0)).setCell ⟨g2, 2, none⟩ (.int .i64 0)).setCell ⟨g2, 3, none⟩ (.int .i64 0)).setCell ⟨g2, 4, none⟩ (.int .i64 0)).setCell ⟨g2, 5, none⟩ (.int .i64 0)).setCell ⟨g2, 6, none⟩ (.int .i64 0)).setCell ⟨g2, 7, none⟩ (.int .i64 0)).setCell ⟨g2, 8, none⟩ (.bool false)).setCell ⟨g2, 9, none⟩ (.slice none 0 0)).setCell ⟨g2, 10, none⟩ (.slice none 0 0) = w99 at B_ G_ ⊢
        have p0_ : w99.cell? ⟨g2, 0, none⟩ = some (.int .i64 0) := (blk_cell B_ 0).trans rfl
        have p1_ : w99.cell? ⟨g2, 1, none⟩ = some (.int .i64 0) := (blk_cell B_ 1).trans rfl
        have p2_ : w99.cell? ⟨g2, 2, none⟩ = some (.int .i64 0) := (blk_cell B_ 2).trans rfl
        have p3_ : w99.cell? ⟨g2, 3, none⟩ = some (.int .i64 0) := (blk_cell B_ 3).trans rfl
        have p4_ : w99.cell? ⟨g2, 4, none⟩ = some (.int .i64 0) := (blk_cell B_ 4).trans rfl
        have p5_ : w99.cell? ⟨g2, 5, none⟩ = some (.int .i64 0) := (blk_cell B_ 5).trans rfl
        have p6_ : w99.cell? ⟨g2, 6, none⟩ = some (.int .i64 0) := (blk_cell B_ 6).trans rfl
        have p7_ : w99.cell? ⟨g2, 7, none⟩ = some (.int .i64 0) := (blk_cell B_ 7).trans rfl
        have p8_ : w99.cell? ⟨g2, 8, none⟩ = some (.bool false) := (blk_cell B_ 8).trans rfl
        have p9_ : w99.cell? ⟨g2, 9, none⟩ = some (.slice none 0 0) := (blk_cell B_ 9).trans rfl
        have p10_ : w99.cell? ⟨g2, 10, none⟩ = some (.slice none 0 0) := (blk_cell B_ 10).trans rfl
        refine bodyPost_ret (v := .tuple #[.agg #[.int .i64 0, .int .i64 0, .int .i64 0, .int .i64 0, .int .i64 0, .int .i64 0, .int .i64 0, .int .i64 0, .bool false, .slice none 0 0, .slice none 0 0], .int .i64 e9]) (by simp [results, Try.results18, go_sem, p0_, p1_, p2_, p3_, p4_, p5_, p6_, p7_, p8_, p9_, p10_]) rfl ?_
        exact ⟨.slice none 0 0, .slice none 0 0, rfl, Kd.R_nil _ _ _ _ _, Kd.R_nil _ _ _ _ _, G_⟩
      have z9_ := he
      have hz9 : (e9 != 0) = false := by simpa using he
      clear he
      have HR := Aside0.mk HT9.out.rd
      obtain ⟨o10, HO10⟩ : ∃ q, Aside0 (rdL 256 r9 = q) := ⟨_, ⟨rfl⟩⟩
      go_wp2_with fail
      refine (ints_some b 256 r9 w0.heap.size _ HR.out (by omega) (by omega)).mono ?_
      rintro e w11 ⟨v10, he1, ho_, h1, h2⟩
      rw [HO10.out] at he1 ho_ h1
      subst he1
      obtain ⟨l10, e10, r10⟩ := o10
      simp only at ho_ h1
      replace ho_ := Kd.R_lower ho_ HT9.out.hb.size
      replace HV9 := Aside0.mk (R_read (by decide) HV9.out HR.out h2)
      have HT11 := Aside0.mk (HT9.out.read h1 h2)
      clear h1 h2 HT9 HR
      obtain ⟨A10, c10, rfl⟩ := Kd.R_slice ho_
      have HV10 := Aside0.mk ho_
      clear ho_
      have c10_ : w11.cell? ⟨g5, 10, none⟩ = some (.slice none 0 0) := (blk_cell HT11.out.b5 10).trans rfl
      have f10_ := blk_frozen HT11.out.b5 10
      go_upto_region 22 with fail
      clear c10_ f10_
      replace HV9 := Aside0.mk (Kd.R_set HV9.out HT11.out.b5 (by decide) 10 (.slice A10 l10.length c10))
      replace HV10 := Aside0.mk (Kd.R_set HV10.out HT11.out.b5 (by decide) 10 (.slice A10 l10.length c10))
      replace HT11 := Aside0.mk (HT11.out.put 10 (.slice A10 l10.length c10) (cs' := #[.int .i64 v0, .int .i64 v1, .int .i64 v2, .int .i64 v3, .int .i64 v4, .int .i64 y0, .int .i64 y1, .int .i64 y2, .bool false, .slice A9 l9.length c9, .slice A10 l10.length c10]) rfl)
      generalize w11.setCell ⟨g5, 10, none⟩ (.slice A10 l10.length c10) = w12 at HT11 HV9 HV10 ⊢
      by_cases he : e10 = 0
      rotate_left
      · have hz : (e10 != 0) = true := by simpa using he
        have he2 := Aside0.mk he
        clear he
        obtain rfl : q = (zeroE, e10) := by rw [← HQ.out]; unfold toEnt; simp only; rw [HN.out, if_neg (by simp), H6.out, if_neg (by simp [z6_]), HE7.out, if_neg (by simp [z7_]), HR7.out, HO8.out, if_neg (by simp [z9_]), HO10.out, if_pos he2.out]
        have d0_ := (blk_cell HT11.out.b2 0).trans (rfl : _ = some (.int .i64 0 : Value))
        have d1_ := (blk_cell HT11.out.b2 1).trans (rfl : _ = some (.int .i64 0 : Value))
        have d2_ := (blk_cell HT11.out.b2 2).trans (rfl : _ = some (.int .i64 0 : Value))
        have d3_ := (blk_cell HT11.out.b2 3).trans (rfl : _ = some (.int .i64 0 : Value))
        have d4_ := (blk_cell HT11.out.b2 4).trans (rfl : _ = some (.int .i64 0 : Value))
        have d5_ := (blk_cell HT11.out.b2 5).trans (rfl : _ = some (.int .i64 0 : Value))
        have d6_ := (blk_cell HT11.out.b2 6).trans (rfl : _ = some (.int .i64 0 : Value))
        have d7_ := (blk_cell HT11.out.b2 7).trans (rfl : _ = some (.int .i64 0 : Value))
        have d8_ := (blk_cell HT11.out.b2 8).trans (rfl : _ = some (.bool false : Value))
        have d9_ := (blk_cell HT11.out.b2 9).trans (rfl : _ = some (.slice none 0 0 : Value))
        have d10_ := (blk_cell HT11.out.b2 10).trans (rfl : _ = some (.slice none 0 0 : Value))
        have k0_ := blk_frozen HT11.out.b2 0
        have k1_ := blk_frozen HT11.out.b2 1
        have k2_ := blk_frozen HT11.out.b2 2
        have k3_ := blk_frozen HT11.out.b2 3
        have k4_ := blk_frozen HT11.out.b2 4
        have k5_ := blk_frozen HT11.out.b2 5
        have k6_ := blk_frozen HT11.out.b2 6
        have k7_ := blk_frozen HT11.out.b2 7
        have k8_ := blk_frozen HT11.out.b2 8
        have k9_ := blk_frozen HT11.out.b2 9
        have k10_ := blk_frozen HT11.out.b2 10
        go_wp2
        have B_ := blk_put (blk_put (blk_put (blk_put (blk_put (blk_put (blk_put (blk_put (blk_put (blk_put (blk_put (HT11.out.b2) 0 (.int .i64 0) rfl) 1 (.int .i64 0) rfl) 2 (.int .i64 0) rfl) 3 (.int .i64 0) rfl) 4 (.int .i64 0) rfl) 5 (.int .i64 0) rfl) 6 (.int .i64 0) rfl) 7 (.int .i64 0) rfl) 8 (.bool false) rfl) 9 (.slice none 0 0) rfl) 10 (.slice none 0 0) rfl
        have G_ := below_set (j := 10) (v := .slice none 0 0) (below_set (j := 9) (v := .slice none 0 0) (below_set (j := 8) (v := .bool false) (below_set (j := 7) (v := .int .i64 0) (below_set (j := 6) (v := .int .i64 0) (below_set (j := 5) (v := .int .i64 0) (below_set (j := 4) (v := .int .i64 0) (below_set (j := 3) (v := .int .i64 0) (below_set (j := 2) (v := .int .i64 0) (below_set (j := 1) (v := .int .i64 0) (below_set (j := 0) (v := .int .i64 0) (HT11.out.hb) HT11.out.l2) HT11.out.l2) HT11.out.l2) HT11.out.l2) HT11.out.l2) HT11.out.l2) HT11.out.l2) HT11.out.l2) HT11.out.l2) HT11.out.l2) HT11.out.l2
        generalize (((((((((((w12).setCell ⟨g2, 0, none⟩ (.int .i64 0)).setCell ⟨g2, 1, none⟩ (.int .i64 0)).setCell ⟨g2, 2, none⟩ (.int .i64 0)).setCell ⟨g2, 3, none⟩ (.int .i64 0)).setCell ⟨g2, 4, none⟩ (.int .i64 0)).setCell ⟨g2, 5, none⟩ (.int .i64 0)).setCell ⟨g2, 6, none⟩ (.int .i64 0)).setCell ⟨g2, 7, none⟩ (.int .i64 0)).setCell ⟨g2, 8, none⟩ (.bool false)).setCell ⟨g2, 9, none⟩ (.slice none 0 0)).setCell ⟨g2, 10, none⟩ (.slice none 0 0) = w99 at B_ G_ ⊢
        have p0_ : w99.cell? ⟨g2, 0, none⟩ = some (.int .i64 0) := (blk_cell B_ 0).trans rfl
        have p1_ : w99.cell? ⟨g2, 1, none⟩ = some (.int .i64 0) := (blk_cell B_ 1).trans rfl
        have p2_ : w99.cell? ⟨g2, 2, none⟩ = some (.int .i64 0) := (blk_cell B_ 2).trans rfl
        have p3_ : w99.cell? ⟨g2, 3, none⟩ = some (.int .i64 0) := (blk_cell B_ 3).trans rfl
        have p4_ : w99.cell? ⟨g2, 4, none⟩ = some (.int .i64 0) := (blk_cell B_ 4).trans rfl
        have p5_ : w99.cell? ⟨g2, 5, none⟩ = some (.int .i64 0) := (blk_cell B_ 5).trans rfl
        have p6_ : w99.cell? ⟨g2, 6, none⟩ = some (.int .i64 0) := (blk_cell B_ 6).trans rfl
        have p7_ : w99.cell? ⟨g2, 7, none⟩ = some (.int .i64 0) := (blk_cell B_ 7).trans rfl
        have p8_ : w99.cell? ⟨g2, 8, none⟩ = some (.bool false) := (blk_cell B_ 8).trans rfl
        have p9_ : w99.cell? ⟨g2, 9, none⟩ = some (.slice none 0 0) := (blk_cell B_ 9).trans rfl
        have p10_ : w99.cell? ⟨g2, 10, none⟩ = some (.slice none 0 0) := (blk_cell B_ 10).trans rfl
        refine bodyPost_ret (v := .tuple #[.agg #[.int .i64 0, .int .i64 0, .int .i64 0, .int .i64 0, .int .i64 0, .int .i64 0, .int .i64 0, .int .i64 0, .bool false, .slice none 0 0, .slice none 0 0], .int .i64 e10]) (by simp [results, Try.results18, go_sem, p0_, p1_, p2_, p3_, p4_, p5_, p6_, p7_, p8_, p9_, p10_]) rfl ?_
        exact ⟨.slice none 0 0, .slice none 0 0, rfl, Kd.R_nil _ _ _ _ _, Kd.R_nil _ _ _ _ _, G_⟩
      have z10_ := he
      have hz10 : (e10 != 0) = false := by simpa using he
      clear he
      obtain ⟨bd, hbd⟩ : ∃ s, (n7 == 1) = s := ⟨_, rfl⟩
      have c8_ : w12.cell? ⟨g5, 8, none⟩ = some (.bool false) := (blk_cell HT11.out.b5 8).trans rfl
      have f8_ := blk_frozen HT11.out.b5 8
      go_upto_region 25 with fail
      clear c8_ f8_
      replace HV9 := Aside0.mk (Kd.R_set HV9.out HT11.out.b5 (by decide) 8 (.bool bd))
      replace HV10 := Aside0.mk (Kd.R_set HV10.out HT11.out.b5 (by decide) 8 (.bool bd))
      replace HT11 := Aside0.mk (HT11.out.put 8 (.bool bd) (cs' := #[.int .i64 v0, .int .i64 v1, .int .i64 v2, .int .i64 v3, .int .i64 v4, .int .i64 y0, .int .i64 y1, .int .i64 y2, .bool bd, .slice A9 l9.length c9, .slice A10 l10.length c10]) rfl)
      generalize w12.setCell ⟨g5, 8, none⟩ (.bool bd) = w13 at HT11 HV9 HV10 ⊢
      have HR := Aside0.mk HT11.out.rd
      go_wp2_with fail
      refine (left_some b r10 _ _ HR.out).mono ?_
      rintro e w14 ⟨rfl, rfl⟩
      obtain ⟨m, HM⟩ : ∃ m, Aside0 (r10.length = m) := ⟨_, ⟨rfl⟩⟩
      rw [HM.out]
      have HBD := Aside0.mk hbd
      clear hbd
      by_cases hm : m = 0
      · have hmz : ((m : Int) != 0) = false := by simp; omega
        by_cases hn : 1 < n7
        · have hnz : decide (1 < n7) = true := by simpa using hn
          obtain rfl : q = (zeroE, 5) := by rw [← HQ.out]; unfold toEnt; simp only; rw [HN.out, if_neg (by simp), H6.out, if_neg (by simp [z6_]), HE7.out, if_neg (by simp [z7_]), HR7.out, HO8.out, if_neg (by simp [z9_]), HO10.out, if_neg (by simp [z10_]), if_pos (.inr (.inl (by rw [HN7.out]; exact hn)))]
          have d0_ := (blk_cell HT11.out.b2 0).trans (rfl : _ = some (.int .i64 0 : Value))
          have d1_ := (blk_cell HT11.out.b2 1).trans (rfl : _ = some (.int .i64 0 : Value))
          have d2_ := (blk_cell HT11.out.b2 2).trans (rfl : _ = some (.int .i64 0 : Value))
          have d3_ := (blk_cell HT11.out.b2 3).trans (rfl : _ = some (.int .i64 0 : Value))
          have d4_ := (blk_cell HT11.out.b2 4).trans (rfl : _ = some (.int .i64 0 : Value))
          have d5_ := (blk_cell HT11.out.b2 5).trans (rfl : _ = some (.int .i64 0 : Value))
          have d6_ := (blk_cell HT11.out.b2 6).trans (rfl : _ = some (.int .i64 0 : Value))
          have d7_ := (blk_cell HT11.out.b2 7).trans (rfl : _ = some (.int .i64 0 : Value))
          have d8_ := (blk_cell HT11.out.b2 8).trans (rfl : _ = some (.bool false : Value))
          have d9_ := (blk_cell HT11.out.b2 9).trans (rfl : _ = some (.slice none 0 0 : Value))
          have d10_ := (blk_cell HT11.out.b2 10).trans (rfl : _ = some (.slice none 0 0 : Value))
          have k0_ := blk_frozen HT11.out.b2 0
          have k1_ := blk_frozen HT11.out.b2 1
          have k2_ := blk_frozen HT11.out.b2 2
          have k3_ := blk_frozen HT11.out.b2 3
          have k4_ := blk_frozen HT11.out.b2 4
          have k5_ := blk_frozen HT11.out.b2 5
          have k6_ := blk_frozen HT11.out.b2 6
          have k7_ := blk_frozen HT11.out.b2 7
          have k8_ := blk_frozen HT11.out.b2 8
          have k9_ := blk_frozen HT11.out.b2 9
          have k10_ := blk_frozen HT11.out.b2 10
          go_wp2
          have B_ := blk_put (blk_put (blk_put (blk_put (blk_put (blk_put (blk_put (blk_put (blk_put (blk_put (blk_put (HT11.out.b2) 0 (.int .i64 0) rfl) 1 (.int .i64 0) rfl) 2 (.int .i64 0) rfl) 3 (.int .i64 0) rfl) 4 (.int .i64 0) rfl) 5 (.int .i64 0) rfl) 6 (.int .i64 0) rfl) 7 (.int .i64 0) rfl) 8 (.bool false) rfl) 9 (.slice none 0 0) rfl) 10 (.slice none 0 0) rfl
          have G_ := below_set (j := 10) (v := .slice none 0 0) (below_set (j := 9) (v := .slice none 0 0) (below_set (j := 8) (v := .bool false) (below_set (j := 7) (v := .int .i64 0) (below_set (j := 6) (v := .int .i64 0) (below_set (j := 5) (v := .int .i64 0) (below_set (j := 4) (v := .int .i64 0) (below_set (j := 3) (v := .int .i64 0) (below_set (j := 2) (v := .int .i64 0) (below_set (j := 1) (v := .int .i64 0) (below_set (j := 0) (v := .int .i64 0) (HT11.out.hb) HT11.out.l2) HT11.out.l2) HT11.out.l2) HT11.out.l2) HT11.out.l2) HT11.out.l2) HT11.out.l2) HT11.out.l2) HT11.out.l2) HT11.out.l2) HT11.out.l2
          generalize (((((((((((w13).setCell ⟨g2, 0, none⟩ (.int .i64 0)).setCell ⟨g2, 1, none⟩ (.int .i64 0)).setCell ⟨g2, 2, none⟩ (.int .i64 0)).setCell ⟨g2, 3, none⟩ (.int .i64 0)).setCell ⟨g2, 4, none⟩ (.int .i64 0)).setCell ⟨g2, 5, none⟩ (.int .i64 0)).setCell ⟨g2, 6, none⟩ (.int .i64 0)).setCell ⟨g2, 7, none⟩ (.int .i64 0)).setCell ⟨g2, 8, none⟩ (.bool false)).setCell ⟨g2, 9, none⟩ (.slice none 0 0)).setCell ⟨g2, 10, none⟩ (.slice none 0 0) = w99 at B_ G_ ⊢
          have p0_ : w99.cell? ⟨g2, 0, none⟩ = some (.int .i64 0) := (blk_cell B_ 0).trans rfl
          have p1_ : w99.cell? ⟨g2, 1, none⟩ = some (.int .i64 0) := (blk_cell B_ 1).trans rfl
          have p2_ : w99.cell? ⟨g2, 2, none⟩ = some (.int .i64 0) := (blk_cell B_ 2).trans rfl
          have p3_ : w99.cell? ⟨g2, 3, none⟩ = some (.int .i64 0) := (blk_cell B_ 3).trans rfl
          have p4_ : w99.cell? ⟨g2, 4, none⟩ = some (.int .i64 0) := (blk_cell B_ 4).trans rfl
          have p5_ : w99.cell? ⟨g2, 5, none⟩ = some (.int .i64 0) := (blk_cell B_ 5).trans rfl
          have p6_ : w99.cell? ⟨g2, 6, none⟩ = some (.int .i64 0) := (blk_cell B_ 6).trans rfl
          have p7_ : w99.cell? ⟨g2, 7, none⟩ = some (.int .i64 0) := (blk_cell B_ 7).trans rfl
          have p8_ : w99.cell? ⟨g2, 8, none⟩ = some (.bool false) := (blk_cell B_ 8).trans rfl
          have p9_ : w99.cell? ⟨g2, 9, none⟩ = some (.slice none 0 0) := (blk_cell B_ 9).trans rfl
          have p10_ : w99.cell? ⟨g2, 10, none⟩ = some (.slice none 0 0) := (blk_cell B_ 10).trans rfl
          refine bodyPost_ret (v := .tuple #[.agg #[.int .i64 0, .int .i64 0, .int .i64 0, .int .i64 0, .int .i64 0, .int .i64 0, .int .i64 0, .int .i64 0, .bool false, .slice none 0 0, .slice none 0 0], .int .i64 5]) (by simp [results, Try.results18, go_sem, p0_, p1_, p2_, p3_, p4_, p5_, p6_, p7_, p8_, p9_, p10_]) rfl ?_
          exact ⟨.slice none 0 0, .slice none 0 0, rfl, Kd.R_nil _ _ _ _ _, Kd.R_nil _ _ _ _ _, G_⟩
        · have hnz : decide (1 < n7) = false := by simpa using hn
          have x0_ := (blk_cell HT11.out.b5 0).trans (rfl : _ = some (.int .i64 v0 : Value))
          have x1_ := (blk_cell HT11.out.b5 1).trans (rfl : _ = some (.int .i64 v1 : Value))
          have x2_ := (blk_cell HT11.out.b5 2).trans (rfl : _ = some (.int .i64 v2 : Value))
          have x3_ := (blk_cell HT11.out.b5 3).trans (rfl : _ = some (.int .i64 v3 : Value))
          have x4_ := (blk_cell HT11.out.b5 4).trans (rfl : _ = some (.int .i64 v4 : Value))
          have x5_ := (blk_cell HT11.out.b5 5).trans (rfl : _ = some (.int .i64 y0 : Value))
          have x6_ := (blk_cell HT11.out.b5 6).trans (rfl : _ = some (.int .i64 y1 : Value))
          have x7_ := (blk_cell HT11.out.b5 7).trans (rfl : _ = some (.int .i64 y2 : Value))
          have x8_ := (blk_cell HT11.out.b5 8).trans (rfl : _ = some (.bool bd : Value))
          have x9_ := (blk_cell HT11.out.b5 9).trans (rfl : _ = some (.slice A9 l9.length c9 : Value))
          have x10_ := (blk_cell HT11.out.b5 10).trans (rfl : _ = some (.slice A10 l10.length c10 : Value))
          go_wp2_with fail
          refine (may_any v0 v1 v2 v3 v4 y0 y1 y2 bd l9 l10 A9 l9.length c9 A10 l10.length c10 _ rfl rfl (Kd.R_reads' HV9.out).2.2 (Kd.R_reads' HV9.out).2.1 (Kd.R_reads' HV10.out).2.2 (Kd.R_reads' HV10.out).2.1).mono ?_
          rintro e w15 ⟨he_, hb_⟩
          obtain ⟨tb, HTB⟩ : ∃ tb, Aside0 (may (⟨v0, v1, v2, v3, v4, y0, y1, y2, bd, l9, l10⟩ : Ent) = tb) := ⟨_, ⟨rfl⟩⟩
          rw [HTB.out] at he_
          subst he_
          clear x0_ x1_ x2_ x3_ x4_ x5_ x6_ x7_ x8_ x9_ x10_
          replace HV9 := Aside0.mk (Kd.R_below HV9.out hb_)
          replace HV10 := Aside0.mk (Kd.R_below HV10.out hb_)
          replace HT11 := Aside0.mk (HT11.out.below hb_)
          clear hb_ HR
          cases tb with
          | false =>
            obtain rfl : q = (zeroE, 5) := by rw [← HQ.out]; unfold toEnt; simp only; rw [HN.out, if_neg (by simp), H6.out, if_neg (by simp [z6_]), HE7.out, if_neg (by simp [z7_]), HR7.out, HO8.out, if_neg (by simp [z9_]), HO10.out, if_neg (by simp [z10_]), if_pos (.inr (.inr (by show may (⟨v0, v1, v2, v3, v4, y0, y1, y2, (rdU r6).1 == 1, l9, l10⟩ : Ent) = false; rw [HN7.out, HBD.out]; exact HTB.out)))]
            have d0_ := (blk_cell HT11.out.b2 0).trans (rfl : _ = some (.int .i64 0 : Value))
            have d1_ := (blk_cell HT11.out.b2 1).trans (rfl : _ = some (.int .i64 0 : Value))
            have d2_ := (blk_cell HT11.out.b2 2).trans (rfl : _ = some (.int .i64 0 : Value))
            have d3_ := (blk_cell HT11.out.b2 3).trans (rfl : _ = some (.int .i64 0 : Value))
            have d4_ := (blk_cell HT11.out.b2 4).trans (rfl : _ = some (.int .i64 0 : Value))
            have d5_ := (blk_cell HT11.out.b2 5).trans (rfl : _ = some (.int .i64 0 : Value))
            have d6_ := (blk_cell HT11.out.b2 6).trans (rfl : _ = some (.int .i64 0 : Value))
            have d7_ := (blk_cell HT11.out.b2 7).trans (rfl : _ = some (.int .i64 0 : Value))
            have d8_ := (blk_cell HT11.out.b2 8).trans (rfl : _ = some (.bool false : Value))
            have d9_ := (blk_cell HT11.out.b2 9).trans (rfl : _ = some (.slice none 0 0 : Value))
            have d10_ := (blk_cell HT11.out.b2 10).trans (rfl : _ = some (.slice none 0 0 : Value))
            have k0_ := blk_frozen HT11.out.b2 0
            have k1_ := blk_frozen HT11.out.b2 1
            have k2_ := blk_frozen HT11.out.b2 2
            have k3_ := blk_frozen HT11.out.b2 3
            have k4_ := blk_frozen HT11.out.b2 4
            have k5_ := blk_frozen HT11.out.b2 5
            have k6_ := blk_frozen HT11.out.b2 6
            have k7_ := blk_frozen HT11.out.b2 7
            have k8_ := blk_frozen HT11.out.b2 8
            have k9_ := blk_frozen HT11.out.b2 9
            have k10_ := blk_frozen HT11.out.b2 10
            go_wp2
            have B_ := blk_put (blk_put (blk_put (blk_put (blk_put (blk_put (blk_put (blk_put (blk_put (blk_put (blk_put (HT11.out.b2) 0 (.int .i64 0) rfl) 1 (.int .i64 0) rfl) 2 (.int .i64 0) rfl) 3 (.int .i64 0) rfl) 4 (.int .i64 0) rfl) 5 (.int .i64 0) rfl) 6 (.int .i64 0) rfl) 7 (.int .i64 0) rfl) 8 (.bool false) rfl) 9 (.slice none 0 0) rfl) 10 (.slice none 0 0) rfl
            have G_ := below_set (j := 10) (v := .slice none 0 0) (below_set (j := 9) (v := .slice none 0 0) (below_set (j := 8) (v := .bool false) (below_set (j := 7) (v := .int .i64 0) (below_set (j := 6) (v := .int .i64 0) (below_set (j := 5) (v := .int .i64 0) (below_set (j := 4) (v := .int .i64 0) (below_set (j := 3) (v := .int .i64 0) (below_set (j := 2) (v := .int .i64 0) (below_set (j := 1) (v := .int .i64 0) (below_set (j := 0) (v := .int .i64 0) (HT11.out.hb) HT11.out.l2) HT11.out.l2) HT11.out.l2) HT11.out.l2) HT11.out.l2) HT11.out.l2) HT11.out.l2) HT11.out.l2) HT11.out.l2) HT11.out.l2) HT11.out.l2
            generalize (((((((((((w15).setCell ⟨g2, 0, none⟩ (.int .i64 0)).setCell ⟨g2, 1, none⟩ (.int .i64 0)).setCell ⟨g2, 2, none⟩ (.int .i64 0)).setCell ⟨g2, 3, none⟩ (.int .i64 0)).setCell ⟨g2, 4, none⟩ (.int .i64 0)).setCell ⟨g2, 5, none⟩ (.int .i64 0)).setCell ⟨g2, 6, none⟩ (.int .i64 0)).setCell ⟨g2, 7, none⟩ (.int .i64 0)).setCell ⟨g2, 8, none⟩ (.bool false)).setCell ⟨g2, 9, none⟩ (.slice none 0 0)).setCell ⟨g2, 10, none⟩ (.slice none 0 0) = w99 at B_ G_ ⊢
            have p0_ : w99.cell? ⟨g2, 0, none⟩ = some (.int .i64 0) := (blk_cell B_ 0).trans rfl
            have p1_ : w99.cell? ⟨g2, 1, none⟩ = some (.int .i64 0) := (blk_cell B_ 1).trans rfl
            have p2_ : w99.cell? ⟨g2, 2, none⟩ = some (.int .i64 0) := (blk_cell B_ 2).trans rfl
            have p3_ : w99.cell? ⟨g2, 3, none⟩ = some (.int .i64 0) := (blk_cell B_ 3).trans rfl
            have p4_ : w99.cell? ⟨g2, 4, none⟩ = some (.int .i64 0) := (blk_cell B_ 4).trans rfl
            have p5_ : w99.cell? ⟨g2, 5, none⟩ = some (.int .i64 0) := (blk_cell B_ 5).trans rfl
            have p6_ : w99.cell? ⟨g2, 6, none⟩ = some (.int .i64 0) := (blk_cell B_ 6).trans rfl
            have p7_ : w99.cell? ⟨g2, 7, none⟩ = some (.int .i64 0) := (blk_cell B_ 7).trans rfl
            have p8_ : w99.cell? ⟨g2, 8, none⟩ = some (.bool false) := (blk_cell B_ 8).trans rfl
            have p9_ : w99.cell? ⟨g2, 9, none⟩ = some (.slice none 0 0) := (blk_cell B_ 9).trans rfl
            have p10_ : w99.cell? ⟨g2, 10, none⟩ = some (.slice none 0 0) := (blk_cell B_ 10).trans rfl
            refine bodyPost_ret (v := .tuple #[.agg #[.int .i64 0, .int .i64 0, .int .i64 0, .int .i64 0, .int .i64 0, .int .i64 0, .int .i64 0, .int .i64 0, .bool false, .slice none 0 0, .slice none 0 0], .int .i64 5]) (by simp [results, Try.results18, go_sem, p0_, p1_, p2_, p3_, p4_, p5_, p6_, p7_, p8_, p9_, p10_]) rfl ?_
            exact ⟨.slice none 0 0, .slice none 0 0, rfl, Kd.R_nil _ _ _ _ _, Kd.R_nil _ _ _ _ _, G_⟩
          | true =>
            obtain rfl : q = ((⟨v0, v1, v2, v3, v4, y0, y1, y2, bd, l9, l10⟩ : Ent), 0) := by
              rw [← HQ.out]
              unfold toEnt
              simp only
              rw [HN.out, if_neg (by simp), H6.out, if_neg (by simp [z6_]), HE7.out, if_neg (by simp [z7_]), HR7.out, HO8.out, if_neg (by simp [z9_]), HO10.out, if_neg (by simp [z10_]), if_neg (by
                rintro (h | h | h)
                · exact h (by rw [HM.out]; exact hm)
                · rw [HN7.out] at h; omega
                · have h' : may (⟨v0, v1, v2, v3, v4, y0, y1, y2, (rdU r6).1 == 1, l9, l10⟩ : Ent) = false := h
                  rw [HN7.out, HBD.out, HTB.out] at h'
                  cases h')]
              rw [HN7.out, HBD.out]
              rfl
            have x0_ := (blk_cell HT11.out.b5 0).trans (rfl : _ = some (.int .i64 v0 : Value))
            have x1_ := (blk_cell HT11.out.b5 1).trans (rfl : _ = some (.int .i64 v1 : Value))
            have x2_ := (blk_cell HT11.out.b5 2).trans (rfl : _ = some (.int .i64 v2 : Value))
            have x3_ := (blk_cell HT11.out.b5 3).trans (rfl : _ = some (.int .i64 v3 : Value))
            have x4_ := (blk_cell HT11.out.b5 4).trans (rfl : _ = some (.int .i64 v4 : Value))
            have x5_ := (blk_cell HT11.out.b5 5).trans (rfl : _ = some (.int .i64 y0 : Value))
            have x6_ := (blk_cell HT11.out.b5 6).trans (rfl : _ = some (.int .i64 y1 : Value))
            have x7_ := (blk_cell HT11.out.b5 7).trans (rfl : _ = some (.int .i64 y2 : Value))
            have x8_ := (blk_cell HT11.out.b5 8).trans (rfl : _ = some (.bool bd : Value))
            have x9_ := (blk_cell HT11.out.b5 9).trans (rfl : _ = some (.slice A9 l9.length c9 : Value))
            have x10_ := (blk_cell HT11.out.b5 10).trans (rfl : _ = some (.slice A10 l10.length c10 : Value))
            have d0_ := (blk_cell HT11.out.b2 0).trans (rfl : _ = some (.int .i64 0 : Value))
            have d1_ := (blk_cell HT11.out.b2 1).trans (rfl : _ = some (.int .i64 0 : Value))
            have d2_ := (blk_cell HT11.out.b2 2).trans (rfl : _ = some (.int .i64 0 : Value))
            have d3_ := (blk_cell HT11.out.b2 3).trans (rfl : _ = some (.int .i64 0 : Value))
            have d4_ := (blk_cell HT11.out.b2 4).trans (rfl : _ = some (.int .i64 0 : Value))
            have d5_ := (blk_cell HT11.out.b2 5).trans (rfl : _ = some (.int .i64 0 : Value))
            have d6_ := (blk_cell HT11.out.b2 6).trans (rfl : _ = some (.int .i64 0 : Value))
            have d7_ := (blk_cell HT11.out.b2 7).trans (rfl : _ = some (.int .i64 0 : Value))
            have d8_ := (blk_cell HT11.out.b2 8).trans (rfl : _ = some (.bool false : Value))
            have d9_ := (blk_cell HT11.out.b2 9).trans (rfl : _ = some (.slice none 0 0 : Value))
            have d10_ := (blk_cell HT11.out.b2 10).trans (rfl : _ = some (.slice none 0 0 : Value))
            have k0_ := blk_frozen HT11.out.b2 0
            have k1_ := blk_frozen HT11.out.b2 1
            have k2_ := blk_frozen HT11.out.b2 2
            have k3_ := blk_frozen HT11.out.b2 3
            have k4_ := blk_frozen HT11.out.b2 4
            have k5_ := blk_frozen HT11.out.b2 5
            have k6_ := blk_frozen HT11.out.b2 6
            have k7_ := blk_frozen HT11.out.b2 7
            have k8_ := blk_frozen HT11.out.b2 8
            have k9_ := blk_frozen HT11.out.b2 9
            have k10_ := blk_frozen HT11.out.b2 10
            go_wp2
            have R9_ := R_fin HV9.out HT11.out.b2 (.int .i64 v0) (.int .i64 v1) (.int .i64 v2) (.int .i64 v3) (.int .i64 v4) (.int .i64 y0) (.int .i64 y1) (.int .i64 y2) (.bool bd) (.slice A9 l9.length c9) (.slice A10 l10.length c10)
            have R10_ := R_fin HV10.out HT11.out.b2 (.int .i64 v0) (.int .i64 v1) (.int .i64 v2) (.int .i64 v3) (.int .i64 v4) (.int .i64 y0) (.int .i64 y1) (.int .i64 y2) (.bool bd) (.slice A9 l9.length c9) (.slice A10 l10.length c10)
            obtain ⟨w99, hw_, B_, G_⟩ := B_fin HT11.out.b2 HT11.out.hb HT11.out.l2 (.int .i64 v0) (.int .i64 v1) (.int .i64 v2) (.int .i64 v3) (.int .i64 v4) (.int .i64 y0) (.int .i64 y1) (.int .i64 y2) (.bool bd) (.slice A9 l9.length c9) (.slice A10 l10.length c10)
            rw [← hw_] at R9_ R10_ ⊢
            clear hw_ x0_ d0_ k0_ x1_ d1_ k1_ x2_ d2_ k2_ x3_ d3_ k3_ x4_ d4_ k4_ x5_ d5_ k5_ x6_ d6_ k6_ x7_ d7_ k7_ x8_ d8_ k8_ x9_ d9_ k9_ x10_ d10_ k10_
            have p0_ : w99.cell? ⟨g2, 0, none⟩ = some (.int .i64 v0) := (blk_cell B_ 0).trans rfl
            have p1_ : w99.cell? ⟨g2, 1, none⟩ = some (.int .i64 v1) := (blk_cell B_ 1).trans rfl
            have p2_ : w99.cell? ⟨g2, 2, none⟩ = some (.int .i64 v2) := (blk_cell B_ 2).trans rfl
            have p3_ : w99.cell? ⟨g2, 3, none⟩ = some (.int .i64 v3) := (blk_cell B_ 3).trans rfl
            have p4_ : w99.cell? ⟨g2, 4, none⟩ = some (.int .i64 v4) := (blk_cell B_ 4).trans rfl
            have p5_ : w99.cell? ⟨g2, 5, none⟩ = some (.int .i64 y0) := (blk_cell B_ 5).trans rfl
            have p6_ : w99.cell? ⟨g2, 6, none⟩ = some (.int .i64 y1) := (blk_cell B_ 6).trans rfl
            have p7_ : w99.cell? ⟨g2, 7, none⟩ = some (.int .i64 y2) := (blk_cell B_ 7).trans rfl
            have p8_ : w99.cell? ⟨g2, 8, none⟩ = some (.bool bd) := (blk_cell B_ 8).trans rfl
            have p9_ : w99.cell? ⟨g2, 9, none⟩ = some (.slice A9 l9.length c9) := (blk_cell B_ 9).trans rfl
            have p10_ : w99.cell? ⟨g2, 10, none⟩ = some (.slice A10 l10.length c10) := (blk_cell B_ 10).trans rfl
            refine bodyPost_ret (v := .tuple #[.agg #[.int .i64 v0, .int .i64 v1, .int .i64 v2, .int .i64 v3, .int .i64 v4, .int .i64 y0, .int .i64 y1, .int .i64 y2, .bool bd, .slice A9 l9.length c9, .slice A10 l10.length c10], .int .i64 0]) (by simp [results, Try.results18, go_sem, p0_, p1_, p2_, p3_, p4_, p5_, p6_, p7_, p8_, p9_, p10_]) rfl ?_
            exact ⟨.slice A9 l9.length c9, .slice A10 l10.length c10, rfl, R9_, R10_, G_⟩
      · have hmz : ((m : Int) != 0) = true := by simp; omega
        obtain rfl : q = (zeroE, 5) := by rw [← HQ.out]; unfold toEnt; simp only; rw [HN.out, if_neg (by simp), H6.out, if_neg (by simp [z6_]), HE7.out, if_neg (by simp [z7_]), HR7.out, HO8.out, if_neg (by simp [z9_]), HO10.out, if_neg (by simp [z10_]), if_pos (.inl (by rw [HM.out]; exact hm))]
        have d0_ := (blk_cell HT11.out.b2 0).trans (rfl : _ = some (.int .i64 0 : Value))
        have d1_ := (blk_cell HT11.out.b2 1).trans (rfl : _ = some (.int .i64 0 : Value))
        have d2_ := (blk_cell HT11.out.b2 2).trans (rfl : _ = some (.int .i64 0 : Value))
        have d3_ := (blk_cell HT11.out.b2 3).trans (rfl : _ = some (.int .i64 0 : Value))
        have d4_ := (blk_cell HT11.out.b2 4).trans (rfl : _ = some (.int .i64 0 : Value))
        have d5_ := (blk_cell HT11.out.b2 5).trans (rfl : _ = some (.int .i64 0 : Value))
        have d6_ := (blk_cell HT11.out.b2 6).trans (rfl : _ = some (.int .i64 0 : Value))
        have d7_ := (blk_cell HT11.out.b2 7).trans (rfl : _ = some (.int .i64 0 : Value))
        have d8_ := (blk_cell HT11.out.b2 8).trans (rfl : _ = some (.bool false : Value))
        have d9_ := (blk_cell HT11.out.b2 9).trans (rfl : _ = some (.slice none 0 0 : Value))
        have d10_ := (blk_cell HT11.out.b2 10).trans (rfl : _ = some (.slice none 0 0 : Value))
        have k0_ := blk_frozen HT11.out.b2 0
        have k1_ := blk_frozen HT11.out.b2 1
        have k2_ := blk_frozen HT11.out.b2 2
        have k3_ := blk_frozen HT11.out.b2 3
        have k4_ := blk_frozen HT11.out.b2 4
        have k5_ := blk_frozen HT11.out.b2 5
        have k6_ := blk_frozen HT11.out.b2 6
        have k7_ := blk_frozen HT11.out.b2 7
        have k8_ := blk_frozen HT11.out.b2 8
        have k9_ := blk_frozen HT11.out.b2 9
        have k10_ := blk_frozen HT11.out.b2 10
        go_wp2
        have B_ := blk_put (blk_put (blk_put (blk_put (blk_put (blk_put (blk_put (blk_put (blk_put (blk_put (blk_put (HT11.out.b2) 0 (.int .i64 0) rfl) 1 (.int .i64 0) rfl) 2 (.int .i64 0) rfl) 3 (.int .i64 0) rfl) 4 (.int .i64 0) rfl) 5 (.int .i64 0) rfl) 6 (.int .i64 0) rfl) 7 (.int .i64 0) rfl) 8 (.bool false) rfl) 9 (.slice none 0 0) rfl) 10 (.slice none 0 0) rfl
        have G_ := below_set (j := 10) (v := .slice none 0 0) (below_set (j := 9) (v := .slice none 0 0) (below_set (j := 8) (v := .bool false) (below_set (j := 7) (v := .int .i64 0) (below_set (j := 6) (v := .int .i64 0) (below_set (j := 5) (v := .int .i64 0) (below_set (j := 4) (v := .int .i64 0) (below_set (j := 3) (v := .int .i64 0) (below_set (j := 2) (v := .int .i64 0) (below_set (j := 1) (v := .int .i64 0) (below_set (j := 0) (v := .int .i64 0) (HT11.out.hb) HT11.out.l2) HT11.out.l2) HT11.out.l2) HT11.out.l2) HT11.out.l2) HT11.out.l2) HT11.out.l2) HT11.out.l2) HT11.out.l2) HT11.out.l2) HT11.out.l2
        generalize (((((((((((w13).setCell ⟨g2, 0, none⟩ (.int .i64 0)).setCell ⟨g2, 1, none⟩ (.int .i64 0)).setCell ⟨g2, 2, none⟩ (.int .i64 0)).setCell ⟨g2, 3, none⟩ (.int .i64 0)).setCell ⟨g2, 4, none⟩ (.int .i64 0)).setCell ⟨g2, 5, none⟩ (.int .i64 0)).setCell ⟨g2, 6, none⟩ (.int .i64 0)).setCell ⟨g2, 7, none⟩ (.int .i64 0)).setCell ⟨g2, 8, none⟩ (.bool false)).setCell ⟨g2, 9, none⟩ (.slice none 0 0)).setCell ⟨g2, 10, none⟩ (.slice none 0 0) = w99 at B_ G_ ⊢
        have p0_ : w99.cell? ⟨g2, 0, none⟩ = some (.int .i64 0) := (blk_cell B_ 0).trans rfl
        have p1_ : w99.cell? ⟨g2, 1, none⟩ = some (.int .i64 0) := (blk_cell B_ 1).trans rfl
        have p2_ : w99.cell? ⟨g2, 2, none⟩ = some (.int .i64 0) := (blk_cell B_ 2).trans rfl
        have p3_ : w99.cell? ⟨g2, 3, none⟩ = some (.int .i64 0) := (blk_cell B_ 3).trans rfl
        have p4_ : w99.cell? ⟨g2, 4, none⟩ = some (.int .i64 0) := (blk_cell B_ 4).trans rfl
        have p5_ : w99.cell? ⟨g2, 5, none⟩ = some (.int .i64 0) := (blk_cell B_ 5).trans rfl
        have p6_ : w99.cell? ⟨g2, 6, none⟩ = some (.int .i64 0) := (blk_cell B_ 6).trans rfl
        have p7_ : w99.cell? ⟨g2, 7, none⟩ = some (.int .i64 0) := (blk_cell B_ 7).trans rfl
        have p8_ : w99.cell? ⟨g2, 8, none⟩ = some (.bool false) := (blk_cell B_ 8).trans rfl
        have p9_ : w99.cell? ⟨g2, 9, none⟩ = some (.slice none 0 0) := (blk_cell B_ 9).trans rfl
        have p10_ : w99.cell? ⟨g2, 10, none⟩ = some (.slice none 0 0) := (blk_cell B_ 10).trans rfl
        refine bodyPost_ret (v := .tuple #[.agg #[.int .i64 0, .int .i64 0, .int .i64 0, .int .i64 0, .int .i64 0, .int .i64 0, .int .i64 0, .int .i64 0, .bool false, .slice none 0 0, .slice none 0 0], .int .i64 5]) (by simp [results, Try.results18, go_sem, p0_, p1_, p2_, p3_, p4_, p5_, p6_, p7_, p8_, p9_, p10_]) rfl ?_
        exact ⟨.slice none 0 0, .slice none 0 0, rfl, Kd.R_nil _ _ _ _ _, Kd.R_nil _ _ _ _ _, G_⟩
end Go.Proofs.Ytedbgkbjbfdnlaa.Rc
