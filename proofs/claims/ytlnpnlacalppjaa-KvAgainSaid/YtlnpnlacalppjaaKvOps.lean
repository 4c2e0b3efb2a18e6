/- A store's own calls. -/
import Derived.Test.YtlnpnlacalppjaaKvFind
import Derived.Test.YtlnpnlacalppjaaKvLaws
import Derived.Deep.QuietTactic
import Derived.BigQuiet
namespace Go.Proofs.Ytlnpnlacalppjaa.Kv
open Go Go.RowKit Go.Proofs.YtlnpnlacalppjaaW.PrintWords Go.Proofs.YtlnpnlacalppjaaW.PrintLast Go.Proofs.YtlnpnlacalppjaaW.PrintMore Go.Proofs.Ytlnpnlacalppjaa.Rw
set_option linter.unusedVariables false
set_option linter.unusedSimpArgs false
theorem blk_types {w : World} {g g2 : Nat} {c1 c2 : Array Value} {t1 t2 : TypeId} {f1 f2 : Nat × Nat} (h1 : w.heap[g]? = some (.cells c1 t1 f1)) (h2 : w.heap[g2]? = some (.cells c2 t2 f2)) (hne : t1 ≠ t2) : g ≠ g2 := by
  rintro rfl
  rw [h1] at h2
  injection h2 with h2
  injection h2 with _ h2
  exact hne h2
theorem own_block {w : World} {base e sz n : Nat} {v : Value} {xs : List Value} (h : w.ownsRow base e sz v n xs) {k : Nat} (hk : some k = v.ownBlock) : ∃ cur, w.heap[k]? = some (.cells cur e (0, 0)) := by
  rcases h.2 with ⟨rfl, _⟩ | ⟨g, cap, cur, rfl, hb, hg, _⟩
  · cases hk
  · injection hk with hk
    subst hk
    exact ⟨cur, hg⟩
theorem own_kept {w w' : World} {base e sz n : Nat} {v : Value} {xs : List Value} (h : w.ownsRow base e sz v n xs) (hm : ∀ k, some k = v.ownBlock → w'.heap[k]? = w.heap[k]?) : w'.ownsRow base e sz v n xs := by
  obtain ⟨h1, h2⟩ := h
  refine ⟨h1, ?_⟩
  rcases h2 with h2 | ⟨g, cap, cur, rfl, hg, hh, r⟩
  · exact .inl h2
  · exact .inr ⟨g, cap, cur, rfl, hg, (hm g rfl).trans hh, r⟩
theorem Chg.set_new {a b : World} {S : Nat → Prop} (h : Chg a b S) {p : Addr} (hp : a.heap.size ≤ p.block) (u : Value) : Chg a (b.setCell p u) S :=
  ⟨h.os, h.tape, h.output, by simpa using h.size, fun k hk hs => (Below.heap_setCell b p u k (by omega)).trans (h.block k hk hs)⟩
/-- Within a call: the store, and the results' own variable. -/
structure FR (w0 w : World) (base b : Nat) (room : Int) (v v' : Value) (L' : KL) (g : Nat) (cs : Array Value) : Prop where
  k : KvS w base b room v' L'
  c : Chg w0 w (SB b v)
  h : Hat v v' w0.heap.size
  r : w.heap[g]? = some (.cells cs 30 (0, 0))
  l : w0.heap.size ≤ g
  bs : base ≤ w0.heap.size
section
variable {w0 w w1 w2 w3 : World} {base b g : Nat} {room : Int} {v v' v2 : Value} {L L' : KL} {cs cs' : Array Value}
theorem FR.sb (h : FR w0 w base b room v v' L' g cs) : ¬ SB b v' g := by
  rintro (e | e)
  · exact blk_types h.r h.k.cell (by decide) e
  · obtain ⟨cur, hc⟩ := own_block h.k.row e
    exact blk_types h.r hc (by decide) rfl
theorem FR.put (h : FR w0 w base b room v v' L' g cs) (j : Nat) (u : Value) (e : cs.setIfInBounds j u = cs') : FR w0 (w.setCell ⟨g, j, none⟩ u) base b room v v' L' g cs' :=
  ⟨h.k.move fun i hi => Below.heap_setCell w ⟨g, j, none⟩ u i (fun e => h.sb (by rw [← show i = g from e]; exact hi)), h.c.set_new h.l u, h.h, blk_put h.r j u e, h.l, h.bs⟩
theorem FR.below (h : FR w0 w base b room v v' L' g cs) (hb : Below w.heap.size w w1) : FR w0 w1 base b room v v' L' g cs :=
  ⟨h.k.below hb, h.c.trans (Chg.of_below hb), h.h, blk_below h.r hb, h.l, h.bs⟩
theorem FR.row (h : FR w0 w base b room v v L g cs) (hb : Below w.heap.size w w2) (hg : w2.grownBy w3 v.ownBlock) (ho : w3.ownsRow base 65 2 v' L'.length (cellsP L')) (hh : Hat v v' w2.heap.size) (h1 : Rise L') (h2 : ∀ p ∈ L', In64 p.1 ∧ In64 p.2) (h3 : L'.length ≤ 1024) :
    FR w0 (w3.setCell ⟨b, 1, none⟩ v') base b room v v' L' g cs := by
  have hk := h.below hb
  have hbv : some b ≠ v.ownBlock := fun e => by
    obtain ⟨cur, hc⟩ := own_block hk.k.row e
    exact blk_types hk.k.cell hc (by decide) rfl
  have hgv : some g ≠ v.ownBlock := fun e => hk.sb (.inr e)
  have cb := (hg.block b hk.k.lt hbv).trans hk.k.cell
  have cg := (hg.block g (Array.getElem?_eq_some_iff.1 hk.r).1 hgv).trans hk.r
  have hbv' : ∀ k, some k = v'.ownBlock → k ≠ b := fun k e => by
    obtain ⟨cur, hc⟩ := own_block ho e
    exact blk_types hc cb (by decide)
  refine ⟨⟨hk.k.hb, blk_put cb 1 v' rfl, own_kept ho fun k e => Below.heap_setCell w3 ⟨b, 1, none⟩ v' k (hbv' k e), h1, h2, h3, hk.k.most⟩, ?_, hh.lower ?_, ?_, h.l, h.bs⟩
  · exact (hk.c.trans ((Chg.of_grown hg).mono fun i hi => .inr hi)).set (.inl rfl) v'
  · exact hk.c.size
  · exact (Below.heap_setCell w3 ⟨b, 1, none⟩ v' g (blk_types cg cb (by decide))).trans cg
theorem FR.mid (h : FR w0 w base b room v v L g cs) (hb : Below w.heap.size w w2) (hg : w2.grownBy w3 v.ownBlock) : w3.heap[b]? = some (.cells #[.int .i64 room, v] 61 (0, 0)) := by
  have hk := h.below hb
  exact (hg.block b hk.k.lt (fun e => by
    obtain ⟨cur, hc⟩ := own_block hk.k.row e
    exact blk_types hk.k.cell hc (by decide) rfl)).trans hk.k.cell
theorem own_set {e sz n cap gg : Nat} {xs : List Value} (h : w.ownsRow base e sz (.slice (some ⟨gg, 0, none⟩) n cap) n xs) (j : Nat) (u : Value) (hj : j < xs.length) : (w.setCell ⟨gg, j, none⟩ u).ownsRow base e sz (.slice (some ⟨gg, 0, none⟩) n cap) n (xs.set j u) := by
  obtain ⟨h1, h2⟩ := h
  rcases h2 with ⟨h2, _⟩ | ⟨g2, cap2, cur, e2, hb, hg, hn, hc, hs, ht⟩
  · cases h2
  · injection e2 with e2 _ e3
    injection e2 with e2
    injection e2 with e2 _ _
    subst e2
    subst e3
    refine ⟨by simpa using h1, .inr ⟨gg, cap, cur.setIfInBounds j u, rfl, hb, blk_put hg j u rfl, hn, hc, by simpa using hs, ?_⟩⟩
    rw [Array.toList_setIfInBounds, List.take_set, ht]
end
theorem cellsP_set {L : KL} {i : Nat} {k x v : Int} (h : L[i]? = some (k, x)) : (cellsP L).set (i * 2 + 1) (.int .i64 v) = cellsP (L.set i (k, v)) := by
  induction L generalizing i with
  | nil => simp at h
  | cons q r ih =>
    cases i with
    | zero =>
      simp only [List.getElem?_cons_zero, Option.some.injEq] at h
      subst h
      rfl
    | succ i =>
      have := ih (i := i) (by simpa using h)
      rw [show (i + 1) * 2 + 1 = (i * 2 + 1) + 1 + 1 by omega]
      show (_ :: _ :: cellsP r).set _ _ = _ :: _ :: cellsP (r.set i (k, v))
      rw [List.set_cons_succ, List.set_cons_succ, this]
theorem put_set {L : KL} (h : Rise L) {k x v : Int} (hg : get L k = some x) : put L k v = L.set (idx L k) (k, v) := by
  have ⟨h1, h2⟩ := put_has h (v := v) hg
  rw [h1, List.set_eq_take_append_cons_drop, if_pos (List.getElem?_eq_some_iff.1 h2).1]
theorem keys_put {L : KL} (h : ∀ p ∈ L, In64 p.1 ∧ In64 p.2) {k v : Int} (hk : In64 k) (hv : In64 v) : ∀ p ∈ put L k v, In64 p.1 ∧ In64 p.2 := by
  intro p hp
  rcases mem_put hp with rfl | hp
  · exact ⟨hk, hv⟩
  · exact h p hp
theorem keys_del {L : KL} (h : ∀ p ∈ L, In64 p.1 ∧ In64 p.2) {k : Int} : ∀ p ∈ del L k, In64 p.1 ∧ In64 p.2 := fun p hp => h p (mem_del hp)
/-- What a call that may turn the store leaves. -/
def OpPost (base b : Nat) (room : Int) (v : Value) (L' : KL) (x : Value) (w : World) (e : Ending) (w' : World) : Prop := ∃ v', e = .returned x ∧ KvS w' base b room v' L' ∧ Chg w w' (SB b v) ∧ Hat v v' w.heap.size
def chgV (k v : Int) (d : Bool) : Value := .agg #[.int .i64 k, .int .i64 0, .int .i64 0, .int .i64 v, .bool d]
theorem new_no (room : Int) (w : World) (h : room < 1 ∨ 1024 < room) : Calls Try.prog 10 #[.int .i64 room] w fun e w' => e = .returned (.tuple #[.pointer none, .int .i64 1]) ∧ w = w' := by
  rcases h with h | h
  · go_enter Try.func10, Try.ntmps10
    go_wp2
    go_ret2
    exact ⟨rfl, rfl⟩
  · have h1 : decide (room < 1) = false := by simp; omega
    go_enter Try.func10, Try.ntmps10
    go_wp2
    go_ret2
    exact ⟨rfl, rfl⟩
theorem new_ok (room : Int) (w : World) (h1 : 1 ≤ room) (h2 : room ≤ 1024) : Calls Try.prog 10 #[.int .i64 room] w fun e w' => ∃ b, e = .returned (.tuple #[.pointer (some ⟨b, 0, none⟩), .int .i64 0]) ∧ KvS w' w.heap.size b room (.slice none 0 0) [] ∧ Below w.heap.size w w' ∧ w.heap.size ≤ b := by
  have HP : Aside0 (∃ b, Ending.returned (.tuple #[.pointer (some ⟨w.heap.size, 0, none⟩), .int .i64 0]) = .returned (.tuple #[.pointer (some ⟨b, 0, none⟩), .int .i64 0]) ∧ KvS (w.alloc (.cells #[.int .i64 room, .slice none 0 0] 61)) w.heap.size b room (.slice none 0 0) [] ∧ Below w.heap.size w (w.alloc (.cells #[.int .i64 room, .slice none 0 0] 61)) ∧ w.heap.size ≤ b) :=
    ⟨⟨_, rfl, ⟨Nat.le_refl _, heap_alloc_new w _, World.ownsRow_nil _ _ _ _, List.Pairwise.nil, (fun p hp => by cases hp), by simp, h2⟩, below_alloc (Below.refl _ _) _, Nat.le_refl _⟩⟩
  have d1 : decide (room < 1) = false := by simp; omega
  have d2 : decide (1024 < room) = false := by simp; omega
  clear h1 h2
  go_enter Try.func10, Try.ntmps10
  go_wp2
  go_ret2
  exact HP.out
theorem get_ok (base b : Nat) (room : Int) (v : Value) (L : KL) (k : Int) (w : World) (h : KvS w base b room v L) :
    Calls Try.prog 17 #[.pointer (some ⟨b, 0, none⟩), .int .i64 k] w fun e w' => e = .returned (.tuple #[.int .i64 ((get L k).getD 0), .bool (get L k).isSome]) ∧ Below w.heap.size w w' := by
  have HF := Aside0.mk (find_ok base b room v L k w h)
  have HK := Aside0.mk h
  clear h
  cases hg : get L k with
  | none =>
    rw [hg] at HF
    obtain ⟨i, HI⟩ : ∃ i, Aside0 (idx L k = i) := ⟨_, ⟨rfl⟩⟩
    rw [HI.out] at HF
    simp only [Option.isSome_none] at HF
    clear hg
    go_enter Try.func17, Try.ntmps17
    go_wp2_with fail
    refine HF.out.mono ?_
    rintro e w2 ⟨rfl, hb_⟩
    have HB := Aside0.mk hb_
    clear hb_
    go_wp2_with fail
    go_ret2
    exact ⟨rfl, HB.out⟩
  | some x =>
    rw [hg] at HF
    simp only [Option.isSome_some] at HF
    have hp := (put_has HK.out.rise (v := 0) hg).2
    obtain ⟨A, c, hv, hnc, hcm⟩ := slice_of HK.out.row
    obtain ⟨g, hA, hc⟩ := own_cells HK.out.row hv hp
    have hlt := (List.getElem?_eq_some_iff.1 hp).1
    obtain ⟨i, HI⟩ : ∃ i, Aside0 (idx L k = i) := ⟨_, ⟨rfl⟩⟩
    obtain ⟨n, HN⟩ : ∃ n, Aside0 (L.length = n) := ⟨_, ⟨rfl⟩⟩
    rw [HI.out] at HF hc hlt
    rw [HN.out] at hlt hv
    subst hA
    subst hv
    have HC := Aside0.mk hc
    clear hg hp hc hnc hcm
    go_enter Try.func17, Try.ntmps17
    go_wp2_with fail
    refine HF.out.mono ?_
    rintro e w2 ⟨rfl, hb_⟩
    have HB := Aside0.mk hb_
    obtain ⟨x1, x2⟩ := HC.out w2 hb_
    obtain ⟨_, x3⟩ := cells_of (HK.out.below hb_)
    try simp only at x1 x2
    clear hb_
    go_wp2_with fail
    go_ret2
    exact ⟨rfl, HB.out⟩
theorem get_nil (k : Int) (w : World) : Calls Try.prog 17 #[.pointer none, .int .i64 k] w fun e w' => e = .returned (.tuple #[.int .i64 0, .bool false]) ∧ w = w' := by
  go_enter Try.func17, Try.ntmps17
  go_wp2_with fail
  refine (find_none k w).mono ?_
  rintro e w2 ⟨rfl, rfl⟩
  go_wp2
  go_ret2
  exact ⟨rfl, rfl⟩
theorem len_ok (base b : Nat) (room : Int) (v : Value) (L : KL) (w : World) (h : KvS w base b room v L) :
    Calls Try.prog 14 #[.pointer (some ⟨b, 0, none⟩)] w fun e w' => e = .returned (.int .i64 (L.length : Nat)) ∧ w = w' := by
  obtain ⟨A, c, hv, hnc, hcm⟩ := slice_of h.row
  obtain ⟨_, x3⟩ := cells_of h
  rw [hv] at x3
  obtain ⟨n, HN⟩ : ∃ n, Aside0 (L.length = n) := ⟨_, ⟨rfl⟩⟩
  rw [HN.out] at x3 ⊢
  clear h hv hnc hcm
  go_enter Try.func14, Try.ntmps14
  go_wp2
  go_ret
  exact ⟨rfl, rfl⟩
theorem len_nil (w : World) : Calls Try.prog 14 #[.pointer none] w fun e w' => e = .returned (.int .i64 0) ∧ w = w' := by
  go_enter Try.func14, Try.ntmps14
  go_wp2
  go_ret
  exact ⟨rfl, rfl⟩
set_option maxHeartbeats 2000000 in
theorem put_ok (base b : Nat) (room : Int) (v : Value) (L : KL) (k x : Int) (w : World) (h : KvS w base b room v L) (hbs : base ≤ w.heap.size) (hk : In64 k) (hx : In64 x) :
    Calls Try.prog 11 #[.pointer (some ⟨b, 0, none⟩), .int .i64 k, .int .i64 x] w (OpPost base b room v (putL room L k x) (if mayPut room L k = true then .tuple #[chgV k x false, .int .i64 0] else .tuple #[chgV 0 0 false, .int .i64 3]) w) := by
  have HK0 := Aside0.mk h
  have HKX := Aside0.mk (⟨hk, hx⟩ : In64 k ∧ In64 x)
  have HBS := Aside0.mk hbs
  obtain ⟨L2, HL2⟩ : ∃ y, Aside0 (putL room L k x = y) := ⟨_, ⟨rfl⟩⟩
  obtain ⟨xv, HXV⟩ : ∃ y, Aside0 ((if mayPut room L k = true then Value.tuple #[chgV k x false, .int .i64 0] else .tuple #[chgV 0 0 false, .int .i64 3]) = y) := ⟨_, ⟨rfl⟩⟩
  rw [HL2.out, HXV.out]
  obtain ⟨A, c, hv, hnc, hcm⟩ := slice_of h.row
  obtain ⟨n, HN⟩ : ∃ n, Aside0 (L.length = n) := ⟨_, ⟨rfl⟩⟩
  rw [HN.out] at hv hnc
  subst hv
  have hcm2 : c ≤ 9223372036854775807 := Nat.le_trans hcm (by decide)
  clear h hk hx hbs hcm
  go_enter Try.func11, Try.ntmps11
  go_upto_region 1 with fail
  have hb_ := below_alloc (Below.refl w.heap.size w) (.cells #[.int .i64 0, .int .i64 0, .int .i64 0, .int .i64 0, .bool false] 30)
  have HF : Aside0 (FR w (w.alloc (.cells #[.int .i64 0, .int .i64 0, .int .i64 0, .int .i64 0, .bool false] 30)) base b room (.slice A n c) (.slice A n c) L w.heap.size #[.int .i64 0, .int .i64 0, .int .i64 0, .int .i64 0, .bool false]) := ⟨⟨HK0.out.below hb_, Chg.of_below hb_, Hat.refl _ _, heap_alloc_new w _, Nat.le_refl _, HBS.out⟩⟩
  generalize w.alloc (.cells #[.int .i64 0, .int .i64 0, .int .i64 0, .int .i64 0, .bool false] 30) = w1 at HF ⊢
  generalize hg6 : w.heap.size = g6 at HF ⊢
  clear hb_ hg6
  go_wp2_with fail
  refine (find_ok base b room (.slice A n c) L k _ HF.out.k).mono ?_
  rintro e w2 ⟨he_, hb_⟩
  replace HF := Aside0.mk (HF.out.below hb_)
  clear hb_
  obtain ⟨i, HI⟩ : ∃ i, Aside0 (idx L k = i) := ⟨_, ⟨rfl⟩⟩
  rw [HI.out] at he_
  cases hg : get L k with
  | some y =>
    rw [hg] at he_
    simp only [Option.isSome_some] at he_
    subst he_
    have hp := (put_has HK0.out.rise (v := x) hg).2
    obtain ⟨g, hA, hc⟩ := own_cells (A := A) (c := c) HF.out.k.row (by rw [HN.out]) hp
    have hlt := (List.getElem?_eq_some_iff.1 hp).1
    have HPS := Aside0.mk (put_set HK0.out.rise (v := x) hg)
    have HCS := Aside0.mk (cellsP_set (v := x) hp)
    rw [HI.out] at hc hlt HPS HCS
    rw [HN.out] at hlt
    obtain ⟨x1, x2⟩ := hc w2 (Below.refl _ _)
    obtain ⟨_, x3⟩ := cells_of HF.out.k
    try simp only at x1 x2
    have HM : Aside0 (mayPut room L k = true) := ⟨by unfold mayPut; rw [hg]; rfl⟩
    have HLL : Aside0 (put L k x = L2) := ⟨by rw [← HL2.out]; unfold putL; rw [if_pos HM.out]⟩
    obtain rfl : Value.tuple #[chgV k x false, .int .i64 0] = xv := by rw [← HXV.out, if_pos HM.out]
    rw [HLL.out] at HPS
    have hi2 : (i : Int) < (n : Int) := by omega
    clear hg hp hc
    subst hA
    obtain ⟨cur, hcur⟩ := own_block HF.out.k.row (k := g) rfl
    have x4 := blk_frozen hcur (i * 2 + 1)
    have HRS : Aside0 (FR w (w2.setCell ⟨g, i * 2 + 1, none⟩ (.int .i64 x)) base b room (.slice (some ⟨g, 0, none⟩) n c) (.slice (some ⟨g, 0, none⟩) n c) L2 g6 #[.int .i64 0, .int .i64 0, .int .i64 0, .int .i64 0, .bool false]) := ⟨by
      have hF := HF.out
      have hgb := blk_types hcur hF.k.cell (by decide)
      have hgg := blk_types hcur hF.r (by decide)
      have hrow := own_set (w := w2) (base := base) (e := 65) (sz := 2) (n := n) (cap := c) (gg := g) (xs := cellsP L) (by have := hF.k.row; rwa [HN.out] at this) (i * 2 + 1) (.int .i64 x) (by rw [cellsP_len, HN.out]; omega)
      rw [HCS.out, ← HPS.out] at hrow
      have hlen : L2.length = n := by rw [HPS.out, List.length_set, HN.out]
      exact ⟨⟨hF.k.hb, (Below.heap_setCell w2 ⟨g, i * 2 + 1, none⟩ _ b hgb.symm).trans hF.k.cell, by rw [hlen]; exact hrow, by rw [← HLL.out]; exact hF.k.rise.put _ _, by rw [← HLL.out]; exact keys_put hF.k.keys HKX.out.1 HKX.out.2, by have := hF.k.len; rw [hlen, ← HN.out]; exact this, hF.k.most⟩,
        hF.c.set (p := ⟨g, i * 2 + 1, none⟩) (.inr rfl) _, hF.h, (Below.heap_setCell w2 ⟨g, i * 2 + 1, none⟩ _ g6 hgg.symm).trans hF.r, hF.l, hF.bs⟩⟩
    clear hcur
    go_upto_region 7 with fail
    clear x1 x2 x3 x4
    generalize w2.setCell ⟨g, i * 2 + 1, none⟩ (.int .i64 x) = w3 at HRS ⊢
    have d0_ := (blk_cell HRS.out.r 0).trans (rfl : _ = some (.int .i64 0 : Value))
    have d1_ := (blk_cell HRS.out.r 1).trans (rfl : _ = some (.int .i64 0 : Value))
    have d2_ := (blk_cell HRS.out.r 2).trans (rfl : _ = some (.int .i64 0 : Value))
    have d3_ := (blk_cell HRS.out.r 3).trans (rfl : _ = some (.int .i64 0 : Value))
    have d4_ := (blk_cell HRS.out.r 4).trans (rfl : _ = some (.bool false : Value))
    have k0_ := blk_frozen HRS.out.r 0
    have k1_ := blk_frozen HRS.out.r 1
    have k2_ := blk_frozen HRS.out.r 2
    have k3_ := blk_frozen HRS.out.r 3
    have k4_ := blk_frozen HRS.out.r 4
    go_wp2
    have F_ := (((((HRS.out).put 0 (.int .i64 k) (cs' := #[.int .i64 k, .int .i64 0, .int .i64 0, .int .i64 0, .bool false]) rfl).put 1 (.int .i64 0) (cs' := #[.int .i64 k, .int .i64 0, .int .i64 0, .int .i64 0, .bool false]) rfl).put 2 (.int .i64 0) (cs' := #[.int .i64 k, .int .i64 0, .int .i64 0, .int .i64 0, .bool false]) rfl).put 3 (.int .i64 x) (cs' := #[.int .i64 k, .int .i64 0, .int .i64 0, .int .i64 x, .bool false]) rfl).put 4 (.bool false) (cs' := #[.int .i64 k, .int .i64 0, .int .i64 0, .int .i64 x, .bool false]) rfl
    generalize (((((w3).setCell ⟨g6, 0, none⟩ (.int .i64 k)).setCell ⟨g6, 1, none⟩ (.int .i64 0)).setCell ⟨g6, 2, none⟩ (.int .i64 0)).setCell ⟨g6, 3, none⟩ (.int .i64 x)).setCell ⟨g6, 4, none⟩ (.bool false) = w99 at F_ ⊢
    have p0_ : w99.cell? ⟨g6, 0, none⟩ = some (.int .i64 k) := (blk_cell F_.r 0).trans rfl
    have p1_ : w99.cell? ⟨g6, 1, none⟩ = some (.int .i64 0) := (blk_cell F_.r 1).trans rfl
    have p2_ : w99.cell? ⟨g6, 2, none⟩ = some (.int .i64 0) := (blk_cell F_.r 2).trans rfl
    have p3_ : w99.cell? ⟨g6, 3, none⟩ = some (.int .i64 x) := (blk_cell F_.r 3).trans rfl
    have p4_ : w99.cell? ⟨g6, 4, none⟩ = some (.bool false) := (blk_cell F_.r 4).trans rfl
    refine bodyPost_ret (v := .tuple #[.agg #[.int .i64 k, .int .i64 0, .int .i64 0, .int .i64 x, .bool false], .int .i64 0]) (by simp [results, Try.results11, go_sem, p0_, p1_, p2_, p3_, p4_]) rfl ?_
    exact ⟨_, rfl, F_.k, F_.c, F_.h⟩
  | none =>
    rw [hg] at he_
    simp only [Option.isSome_none] at he_
    subst he_
    obtain ⟨x0, x3⟩ := cells_of HF.out.k
    have HG := Aside0.mk hg
    clear hg
    by_cases hr : (n : Int) < room
    · have hd : decide (room ≤ (n : Int)) = false := by simp; omega
      have HM : Aside0 (mayPut room L k = true) := ⟨by unfold mayPut; rw [HN.out]; simp [hr]⟩
      have HLL : Aside0 (put L k x = L2) := ⟨by rw [← HL2.out]; unfold putL; rw [if_pos HM.out]⟩
      obtain rfl : Value.tuple #[chgV k x false, .int .i64 0] = xv := by rw [← HXV.out, if_pos HM.out]
      have HR := Aside0.mk hr
      clear hr
      go_upto_region 5 with fail
      go_quiet (fail)
      have hb_ : Below w2.heap.size w2 (w2.drewN nq) := pw_below_drewN (Below.refl _ _) _
      replace HF := Aside0.mk (HF.out.below hb_)
      generalize w2.drewN nq = w3 at HF ⊢
      clear hb_ x0 x3
      obtain ⟨_, x3⟩ := cells_of HF.out.k
      have hbA := below_alloc (Below.refl w3.heap.size w3) (.cells #[.int .i64 k, .int .i64 x] 65)
      have HBA := Aside0.mk hbA
      have HOW : Aside0 ((w3.alloc (.cells #[.int .i64 k, .int .i64 x] 65)).ownsRow base 65 2 (.slice A n c) n (cellsP L)) := ⟨by have := (HF.out.k.below hbA).row; rwa [HN.out] at this⟩
      have HNE : Aside0 (some w3.heap.size ≠ (Value.slice A n c).ownBlock) := ⟨fun e => by have := (HF.out.k.sb _ (.inr e)).2; omega⟩
      have HIL : Aside0 (i ≤ n) := ⟨by rw [← HI.out, ← HN.out]; exact idx_le L k⟩
      have HBB : Aside0 (base ≤ (w3.alloc (.cells #[.int .i64 k, .int .i64 x] 65)).heap.size) := ⟨Nat.le_trans (Nat.le_trans HF.out.bs HF.out.c.size) hbA.size⟩
      have HNL : Aside0 (n ≤ 5000) := ⟨by have := HF.out.k.len; rw [HN.out] at this; omega⟩
      have HCE : Aside0 ((cellsP L).take (i * 2) ++ [.int .i64 k, .int .i64 x] ++ (cellsP L).drop (i * 2) = cellsP L2) := ⟨by
        rw [← HLL.out, put_new HK0.out.rise HG.out, HI.out, cellsP_append, ← cellsP_take, ← cellsP_drop]
        show _ = cellsP (L.take i) ++ (_ :: _ :: cellsP (L.drop i))
        simp⟩
      have HLE : Aside0 (L2.length = n + 1) := ⟨by rw [← HLL.out, len_put_new HK0.out.rise HG.out, HN.out]⟩
      have HRI : Aside0 (Rise L2) := ⟨by rw [← HLL.out]; exact HK0.out.rise.put _ _⟩
      have HKY : Aside0 (∀ p ∈ L2, In64 p.1 ∧ In64 p.2) := ⟨by rw [← HLL.out]; exact keys_put HK0.out.keys HKX.out.1 HKX.out.2⟩
      have HL3 : Aside0 (L2.length ≤ 1024) := ⟨by have := HF.out.k.most; have := HR.out; rw [HLE.out]; omega⟩
      clear hbA
      go_wp2_with fail
      refine (insert_any base n i w3.heap.size 1 (.slice A n c) (cellsP L) (.int .i64 k) (.int .i64 x) _ HOW.out cellsP_one HIL.out (heap_alloc_new w3 _) HNE.out rfl rfl HBB.out HNL.out).mono ?_
      rintro e w4 ⟨v', rfl, ho, hgr, hh⟩
      rw [HCE.out, ← HLE.out] at ho
      have HFR := Aside0.mk (HF.out.row HBA.out hgr ho hh HRI.out HKY.out HL3.out)
      have hmid := HF.out.mid HBA.out hgr
      obtain ⟨A', c', hv', _, _⟩ := slice_of ho
      rw [HLE.out] at hv'
      subst hv'
      have y1 := (blk_cell hmid 1).trans (rfl : _ = some (.slice A n c : Value))
      have y2 := blk_frozen hmid 1
      clear x3 ho hgr hh hmid
      go_upto_region 7 with fail
      clear y1 y2
      generalize w4.setCell ⟨b, 1, none⟩ (.slice A' (n + 1) c') = w5 at HFR ⊢
      have d0_ := (blk_cell HFR.out.r 0).trans (rfl : _ = some (.int .i64 0 : Value))
      have d1_ := (blk_cell HFR.out.r 1).trans (rfl : _ = some (.int .i64 0 : Value))
      have d2_ := (blk_cell HFR.out.r 2).trans (rfl : _ = some (.int .i64 0 : Value))
      have d3_ := (blk_cell HFR.out.r 3).trans (rfl : _ = some (.int .i64 0 : Value))
      have d4_ := (blk_cell HFR.out.r 4).trans (rfl : _ = some (.bool false : Value))
      have k0_ := blk_frozen HFR.out.r 0
      have k1_ := blk_frozen HFR.out.r 1
      have k2_ := blk_frozen HFR.out.r 2
      have k3_ := blk_frozen HFR.out.r 3
      have k4_ := blk_frozen HFR.out.r 4
      go_wp2
      have F_ := (((((HFR.out).put 0 (.int .i64 k) (cs' := #[.int .i64 k, .int .i64 0, .int .i64 0, .int .i64 0, .bool false]) rfl).put 1 (.int .i64 0) (cs' := #[.int .i64 k, .int .i64 0, .int .i64 0, .int .i64 0, .bool false]) rfl).put 2 (.int .i64 0) (cs' := #[.int .i64 k, .int .i64 0, .int .i64 0, .int .i64 0, .bool false]) rfl).put 3 (.int .i64 x) (cs' := #[.int .i64 k, .int .i64 0, .int .i64 0, .int .i64 x, .bool false]) rfl).put 4 (.bool false) (cs' := #[.int .i64 k, .int .i64 0, .int .i64 0, .int .i64 x, .bool false]) rfl
      generalize (((((w5).setCell ⟨g6, 0, none⟩ (.int .i64 k)).setCell ⟨g6, 1, none⟩ (.int .i64 0)).setCell ⟨g6, 2, none⟩ (.int .i64 0)).setCell ⟨g6, 3, none⟩ (.int .i64 x)).setCell ⟨g6, 4, none⟩ (.bool false) = w99 at F_ ⊢
      have p0_ : w99.cell? ⟨g6, 0, none⟩ = some (.int .i64 k) := (blk_cell F_.r 0).trans rfl
      have p1_ : w99.cell? ⟨g6, 1, none⟩ = some (.int .i64 0) := (blk_cell F_.r 1).trans rfl
      have p2_ : w99.cell? ⟨g6, 2, none⟩ = some (.int .i64 0) := (blk_cell F_.r 2).trans rfl
      have p3_ : w99.cell? ⟨g6, 3, none⟩ = some (.int .i64 x) := (blk_cell F_.r 3).trans rfl
      have p4_ : w99.cell? ⟨g6, 4, none⟩ = some (.bool false) := (blk_cell F_.r 4).trans rfl
      refine bodyPost_ret (v := .tuple #[.agg #[.int .i64 k, .int .i64 0, .int .i64 0, .int .i64 x, .bool false], .int .i64 0]) (by simp [results, Try.results11, go_sem, p0_, p1_, p2_, p3_, p4_]) rfl ?_
      exact ⟨_, rfl, F_.k, F_.c, F_.h⟩
    · have hd : decide (room ≤ (n : Int)) = true := by simp; omega
      have HM : Aside0 (mayPut room L k = false) := ⟨by unfold mayPut; rw [HN.out, HG.out]; simp; omega⟩
      obtain rfl : L = L2 := by rw [← HL2.out]; unfold putL; rw [if_neg (by rw [HM.out]; simp)]
      obtain rfl : Value.tuple #[chgV 0 0 false, .int .i64 3] = xv := by rw [← HXV.out, if_neg (by rw [HM.out]; simp)]
      clear hr
      go_upto_region 5 with fail
      go_quiet (fail)
      have hb_ : Below w2.heap.size w2 (w2.drewN nq) := pw_below_drewN (Below.refl _ _) _
      replace HF := Aside0.mk (HF.out.below hb_)
      generalize w2.drewN nq = w3 at HF ⊢
      clear hb_ x0 x3
      have d0_ := (blk_cell HF.out.r 0).trans (rfl : _ = some (.int .i64 0 : Value))
      have d1_ := (blk_cell HF.out.r 1).trans (rfl : _ = some (.int .i64 0 : Value))
      have d2_ := (blk_cell HF.out.r 2).trans (rfl : _ = some (.int .i64 0 : Value))
      have d3_ := (blk_cell HF.out.r 3).trans (rfl : _ = some (.int .i64 0 : Value))
      have d4_ := (blk_cell HF.out.r 4).trans (rfl : _ = some (.bool false : Value))
      have k0_ := blk_frozen HF.out.r 0
      have k1_ := blk_frozen HF.out.r 1
      have k2_ := blk_frozen HF.out.r 2
      have k3_ := blk_frozen HF.out.r 3
      have k4_ := blk_frozen HF.out.r 4
      go_wp2
      have F_ := (((((HF.out).put 0 (.int .i64 0) (cs' := #[.int .i64 0, .int .i64 0, .int .i64 0, .int .i64 0, .bool false]) rfl).put 1 (.int .i64 0) (cs' := #[.int .i64 0, .int .i64 0, .int .i64 0, .int .i64 0, .bool false]) rfl).put 2 (.int .i64 0) (cs' := #[.int .i64 0, .int .i64 0, .int .i64 0, .int .i64 0, .bool false]) rfl).put 3 (.int .i64 0) (cs' := #[.int .i64 0, .int .i64 0, .int .i64 0, .int .i64 0, .bool false]) rfl).put 4 (.bool false) (cs' := #[.int .i64 0, .int .i64 0, .int .i64 0, .int .i64 0, .bool false]) rfl
      generalize (((((w3).setCell ⟨g6, 0, none⟩ (.int .i64 0)).setCell ⟨g6, 1, none⟩ (.int .i64 0)).setCell ⟨g6, 2, none⟩ (.int .i64 0)).setCell ⟨g6, 3, none⟩ (.int .i64 0)).setCell ⟨g6, 4, none⟩ (.bool false) = w99 at F_ ⊢
      have p0_ : w99.cell? ⟨g6, 0, none⟩ = some (.int .i64 0) := (blk_cell F_.r 0).trans rfl
      have p1_ : w99.cell? ⟨g6, 1, none⟩ = some (.int .i64 0) := (blk_cell F_.r 1).trans rfl
      have p2_ : w99.cell? ⟨g6, 2, none⟩ = some (.int .i64 0) := (blk_cell F_.r 2).trans rfl
      have p3_ : w99.cell? ⟨g6, 3, none⟩ = some (.int .i64 0) := (blk_cell F_.r 3).trans rfl
      have p4_ : w99.cell? ⟨g6, 4, none⟩ = some (.bool false) := (blk_cell F_.r 4).trans rfl
      refine bodyPost_ret (v := .tuple #[.agg #[.int .i64 0, .int .i64 0, .int .i64 0, .int .i64 0, .bool false], .int .i64 3]) (by simp [results, Try.results11, go_sem, p0_, p1_, p2_, p3_, p4_]) rfl ?_
      exact ⟨_, rfl, F_.k, F_.c, F_.h⟩
set_option maxHeartbeats 2000000 in
theorem del_ok (base b : Nat) (room : Int) (v : Value) (L : KL) (k : Int) (w : World) (h : KvS w base b room v L) (hbs : base ≤ w.heap.size) :
    Calls Try.prog 15 #[.pointer (some ⟨b, 0, none⟩), .int .i64 k] w (OpPost base b room v (del L k) (if (get L k).isSome = true then .tuple #[chgV k 0 true, .int .i64 0] else .tuple #[chgV 0 0 false, .int .i64 6]) w) := by
  have HK0 := Aside0.mk h
  have HBS := Aside0.mk hbs
  obtain ⟨L2, HL2⟩ : ∃ y, Aside0 (del L k = y) := ⟨_, ⟨rfl⟩⟩
  obtain ⟨xv, HXV⟩ : ∃ y, Aside0 ((if (get L k).isSome = true then Value.tuple #[chgV k 0 true, .int .i64 0] else .tuple #[chgV 0 0 false, .int .i64 6]) = y) := ⟨_, ⟨rfl⟩⟩
  rw [HL2.out, HXV.out]
  obtain ⟨A, c, hv, hnc, hcm⟩ := slice_of h.row
  obtain ⟨n, HN⟩ : ∃ n, Aside0 (L.length = n) := ⟨_, ⟨rfl⟩⟩
  rw [HN.out] at hv hnc
  subst hv
  have hcm2 : c ≤ 9223372036854775807 := Nat.le_trans hcm (by decide)
  clear h hbs hcm
  go_enter Try.func15, Try.ntmps15
  go_upto_region 1 with fail
  have hb_ := below_alloc (Below.refl w.heap.size w) (.cells #[.int .i64 0, .int .i64 0, .int .i64 0, .int .i64 0, .bool false] 30)
  have HF : Aside0 (FR w (w.alloc (.cells #[.int .i64 0, .int .i64 0, .int .i64 0, .int .i64 0, .bool false] 30)) base b room (.slice A n c) (.slice A n c) L w.heap.size #[.int .i64 0, .int .i64 0, .int .i64 0, .int .i64 0, .bool false]) := ⟨⟨HK0.out.below hb_, Chg.of_below hb_, Hat.refl _ _, heap_alloc_new w _, Nat.le_refl _, HBS.out⟩⟩
  generalize w.alloc (.cells #[.int .i64 0, .int .i64 0, .int .i64 0, .int .i64 0, .bool false] 30) = w1 at HF ⊢
  generalize hg6 : w.heap.size = g6 at HF ⊢
  clear hb_ hg6
  go_wp2_with fail
  refine (find_ok base b room (.slice A n c) L k _ HF.out.k).mono ?_
  rintro e w2 ⟨he_, hb_⟩
  replace HF := Aside0.mk (HF.out.below hb_)
  clear hb_
  obtain ⟨i, HI⟩ : ∃ i, Aside0 (idx L k = i) := ⟨_, ⟨rfl⟩⟩
  rw [HI.out] at he_
  cases hg : get L k with
  | none =>
    rw [hg] at he_ HXV
    simp only [Option.isSome_none] at he_
    subst he_
    obtain rfl : L = L2 := by rw [← HL2.out]; exact (del_none hg).symm
    obtain rfl : Value.tuple #[chgV 0 0 false, .int .i64 6] = xv := by rw [← HXV.out]; rfl
    clear hg
    have d0_ := (blk_cell HF.out.r 0).trans (rfl : _ = some (.int .i64 0 : Value))
    have d1_ := (blk_cell HF.out.r 1).trans (rfl : _ = some (.int .i64 0 : Value))
    have d2_ := (blk_cell HF.out.r 2).trans (rfl : _ = some (.int .i64 0 : Value))
    have d3_ := (blk_cell HF.out.r 3).trans (rfl : _ = some (.int .i64 0 : Value))
    have d4_ := (blk_cell HF.out.r 4).trans (rfl : _ = some (.bool false : Value))
    have k0_ := blk_frozen HF.out.r 0
    have k1_ := blk_frozen HF.out.r 1
    have k2_ := blk_frozen HF.out.r 2
    have k3_ := blk_frozen HF.out.r 3
    have k4_ := blk_frozen HF.out.r 4
    go_wp2
    have F_ := (((((HF.out).put 0 (.int .i64 0) (cs' := #[.int .i64 0, .int .i64 0, .int .i64 0, .int .i64 0, .bool false]) rfl).put 1 (.int .i64 0) (cs' := #[.int .i64 0, .int .i64 0, .int .i64 0, .int .i64 0, .bool false]) rfl).put 2 (.int .i64 0) (cs' := #[.int .i64 0, .int .i64 0, .int .i64 0, .int .i64 0, .bool false]) rfl).put 3 (.int .i64 0) (cs' := #[.int .i64 0, .int .i64 0, .int .i64 0, .int .i64 0, .bool false]) rfl).put 4 (.bool false) (cs' := #[.int .i64 0, .int .i64 0, .int .i64 0, .int .i64 0, .bool false]) rfl
    generalize (((((w2).setCell ⟨g6, 0, none⟩ (.int .i64 0)).setCell ⟨g6, 1, none⟩ (.int .i64 0)).setCell ⟨g6, 2, none⟩ (.int .i64 0)).setCell ⟨g6, 3, none⟩ (.int .i64 0)).setCell ⟨g6, 4, none⟩ (.bool false) = w99 at F_ ⊢
    have p0_ : w99.cell? ⟨g6, 0, none⟩ = some (.int .i64 0) := (blk_cell F_.r 0).trans rfl
    have p1_ : w99.cell? ⟨g6, 1, none⟩ = some (.int .i64 0) := (blk_cell F_.r 1).trans rfl
    have p2_ : w99.cell? ⟨g6, 2, none⟩ = some (.int .i64 0) := (blk_cell F_.r 2).trans rfl
    have p3_ : w99.cell? ⟨g6, 3, none⟩ = some (.int .i64 0) := (blk_cell F_.r 3).trans rfl
    have p4_ : w99.cell? ⟨g6, 4, none⟩ = some (.bool false) := (blk_cell F_.r 4).trans rfl
    refine bodyPost_ret (v := .tuple #[.agg #[.int .i64 0, .int .i64 0, .int .i64 0, .int .i64 0, .bool false], .int .i64 6]) (by simp [results, Try.results15, go_sem, p0_, p1_, p2_, p3_, p4_]) rfl ?_
    exact ⟨_, rfl, F_.k, F_.c, F_.h⟩
  | some y =>
    rw [hg] at he_ HXV
    simp only [Option.isSome_some] at he_
    subst he_
    obtain rfl : Value.tuple #[chgV k 0 true, .int .i64 0] = xv := by rw [← HXV.out]; rfl
    have hp := (put_has HK0.out.rise (v := 0) hg).2
    have hlt := (List.getElem?_eq_some_iff.1 hp).1
    have HDH := Aside0.mk (del_has HK0.out.rise hg)
    have HDL := Aside0.mk (len_del_has HK0.out.rise hg)
    rw [HI.out] at hlt HDH
    rw [HL2.out] at HDH HDL
    rw [HN.out] at hlt HDL
    obtain ⟨_, x3⟩ := cells_of HF.out.k
    have HOW : Aside0 (w2.ownsRow base 65 2 (.slice A n c) n (cellsP L)) := ⟨by have := HF.out.k.row; rwa [HN.out] at this⟩
    have HNL : Aside0 (n ≤ 5000) := ⟨by have := HF.out.k.len; rw [HN.out] at this; omega⟩
    have HCE : Aside0 ((cellsP L).take (i * 2) ++ (cellsP L).drop ((i + 1) * 2) = cellsP L2) := ⟨by rw [HDH.out, cellsP_append, ← cellsP_take, ← cellsP_drop]⟩
    have HRI : Aside0 (Rise L2) := ⟨by rw [← HL2.out]; exact HK0.out.rise.del _⟩
    have HKY : Aside0 (∀ p ∈ L2, In64 p.1 ∧ In64 p.2) := ⟨by rw [← HL2.out]; exact keys_del HK0.out.keys⟩
    have HL3 : Aside0 (L2.length ≤ 1024) := ⟨by have := HF.out.k.len; have := HDL.out; rw [HN.out] at *; omega⟩
    have hin : (i : Int) ≤ 1000000 := by have := HNL.out; omega
    have hlt2 : (i : Int) < (n : Int) := by omega
    obtain ⟨m, HM⟩ : ∃ m, Aside0 (n - 1 = m) := ⟨_, ⟨rfl⟩⟩
    clear hg hp
    go_wp2_with fail
    refine (delete_any base n i (.slice A n c) (cellsP L) _ HOW.out cellsP_one hlt HNL.out).mono ?_
    rintro e w4 ⟨v', rfl, ho, hgr, hh⟩
    rw [HCE.out] at ho
    have ho' := ho
    rw [show n - 1 = L2.length by have := HDL.out; omega] at ho
    have HFR := Aside0.mk (HF.out.row (Below.refl _ _) hgr ho hh HRI.out HKY.out HL3.out)
    have hmid := HF.out.mid (Below.refl _ _) hgr
    obtain ⟨A', c', hv', _, _⟩ := slice_of ho'
    rw [HM.out] at hv'
    subst hv'
    have y1 := (blk_cell hmid 1).trans (rfl : _ = some (.slice A n c : Value))
    have y2 := blk_frozen hmid 1
    clear x3 ho ho' hgr hh hmid
    go_upto_region 5 with fail
    clear y1 y2
    generalize w4.setCell ⟨b, 1, none⟩ (.slice A' m c') = w5 at HFR ⊢
    have d0_ := (blk_cell HFR.out.r 0).trans (rfl : _ = some (.int .i64 0 : Value))
    have d1_ := (blk_cell HFR.out.r 1).trans (rfl : _ = some (.int .i64 0 : Value))
    have d2_ := (blk_cell HFR.out.r 2).trans (rfl : _ = some (.int .i64 0 : Value))
    have d3_ := (blk_cell HFR.out.r 3).trans (rfl : _ = some (.int .i64 0 : Value))
    have d4_ := (blk_cell HFR.out.r 4).trans (rfl : _ = some (.bool false : Value))
    have k0_ := blk_frozen HFR.out.r 0
    have k1_ := blk_frozen HFR.out.r 1
    have k2_ := blk_frozen HFR.out.r 2
    have k3_ := blk_frozen HFR.out.r 3
    have k4_ := blk_frozen HFR.out.r 4
    go_wp2
    have F_ := (((((HFR.out).put 0 (.int .i64 k) (cs' := #[.int .i64 k, .int .i64 0, .int .i64 0, .int .i64 0, .bool false]) rfl).put 1 (.int .i64 0) (cs' := #[.int .i64 k, .int .i64 0, .int .i64 0, .int .i64 0, .bool false]) rfl).put 2 (.int .i64 0) (cs' := #[.int .i64 k, .int .i64 0, .int .i64 0, .int .i64 0, .bool false]) rfl).put 3 (.int .i64 0) (cs' := #[.int .i64 k, .int .i64 0, .int .i64 0, .int .i64 0, .bool false]) rfl).put 4 (.bool true) (cs' := #[.int .i64 k, .int .i64 0, .int .i64 0, .int .i64 0, .bool true]) rfl
    generalize (((((w5).setCell ⟨g6, 0, none⟩ (.int .i64 k)).setCell ⟨g6, 1, none⟩ (.int .i64 0)).setCell ⟨g6, 2, none⟩ (.int .i64 0)).setCell ⟨g6, 3, none⟩ (.int .i64 0)).setCell ⟨g6, 4, none⟩ (.bool true) = w99 at F_ ⊢
    have p0_ : w99.cell? ⟨g6, 0, none⟩ = some (.int .i64 k) := (blk_cell F_.r 0).trans rfl
    have p1_ : w99.cell? ⟨g6, 1, none⟩ = some (.int .i64 0) := (blk_cell F_.r 1).trans rfl
    have p2_ : w99.cell? ⟨g6, 2, none⟩ = some (.int .i64 0) := (blk_cell F_.r 2).trans rfl
    have p3_ : w99.cell? ⟨g6, 3, none⟩ = some (.int .i64 0) := (blk_cell F_.r 3).trans rfl
    have p4_ : w99.cell? ⟨g6, 4, none⟩ = some (.bool true) := (blk_cell F_.r 4).trans rfl
    refine bodyPost_ret (v := .tuple #[.agg #[.int .i64 k, .int .i64 0, .int .i64 0, .int .i64 0, .bool true], .int .i64 0]) (by simp [results, Try.results15, go_sem, p0_, p1_, p2_, p3_, p4_]) rfl ?_
    exact ⟨_, rfl, F_.k, F_.c, F_.h⟩
end Go.Proofs.Ytlnpnlacalppjaa.Kv
