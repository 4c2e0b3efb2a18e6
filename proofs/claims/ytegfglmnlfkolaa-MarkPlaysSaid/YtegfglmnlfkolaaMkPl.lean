/- The statement MarkPlays. -/
import Derived.Test.YtegfglmnlfkolaaMkRn
import Derived.Test.YtegfglmnlfkolaaMkS
import Derived.Test.YtegfglmnlfkolaaEx2
namespace Go.Proofs.Ytegfglmnlfkolaa.Mk
open Go Go.RowKit Go.Maps Go.Proofs.YtegfglmnlfkolaaW.PrintWords Go.Proofs.YtegfglmnlfkolaaW.PrintLast Go.Proofs.YtegfglmnlfkolaaW.PrintMore Go.Proofs.Ytegfglmnlfkolaa.Opn
set_option linter.unusedVariables false
set_option linter.unusedSimpArgs false
theorem seenL {L : List (Int × Int)} (hg : Good L) {l ts : List Int} (hk : L.map (·.1) = l) (ht : L.map (·.2) = ts) (v : Int) (h24 : l.length ≤ 24) : ∀ (d i k : Nat), i + d = l.length → d < k → (∀ j, j < i → l.getD j 0 ≠ v) → Ex.tidemillref19_Seen.l0 k v (i : Int) l ts = some (seen L v) := by
  have hlt : ts.length = l.length := by rw [← hk, ← ht]; simp
  intro d
  induction d with
  | zero =>
    intro i k hi hd hno
    obtain ⟨k, rfl⟩ : ∃ m, k = m + 1 := ⟨k - 1, by omega⟩
    simp only [Ex.tidemillref19_Seen.l0]
    rw [if_neg (by omega), seen, lk_no hk (fun j hj => hno j (by omega))]
    rfl
  | succ d ih =>
    intro i k hi hd hno
    obtain ⟨k, rfl⟩ : ∃ m, k = m + 1 := ⟨k - 1, by omega⟩
    simp only [Ex.tidemillref19_Seen.l0]
    rw [if_pos (by omega), if_pos (by omega)]
    by_cases hv : rd l (i : Int) = v
    · obtain ⟨_, _, h3⟩ := lk_at (v := v) (y := ts.getD i 0) hg.rise hk ht (i := i) (by omega) (by rw [← rd_nat]; exact hv) rfl
      rw [if_pos hv, if_pos (by omega), seen, h3, rd_nat]
      rfl
    · rw [if_neg hv, show wrap64 ((i : Int) + 1) = ((i + 1 : Nat) : Int) by unfold wrap64; omega]
      refine ih (i + 1) k (by omega) (by omega) (fun j hj => ?_)
      by_cases e : j = i
      · rw [e, ← rd_nat]; exact hv
      · exact hno j (by omega)
theorem markL {l ts : List Int} (h24 : ts.length ≤ 24) : ∀ (d i k : Nat) (m : Int), i + d = ts.length → d < k → m ∈ ts → (∀ j, j < i → m ≤ ts.getD j 0) → ∃ r, Ex.tidemillref19_Mark.l0 k m (i : Int) l ts = some r ∧ r ∈ ts ∧ ∀ j, j < ts.length → r ≤ ts.getD j 0 := by
  intro d
  induction d with
  | zero =>
    intro i k m hi hd hm hle
    obtain ⟨k, rfl⟩ : ∃ m, k = m + 1 := ⟨k - 1, by omega⟩
    simp only [Ex.tidemillref19_Mark.l0]
    rw [if_neg (by omega)]
    exact ⟨m, rfl, hm, fun j hj => hle j (by omega)⟩
  | succ d ih =>
    intro i k m hi hd hm hle
    obtain ⟨k, rfl⟩ : ∃ m, k = m + 1 := ⟨k - 1, by omega⟩
    simp only [Ex.tidemillref19_Mark.l0]
    rw [if_pos (by omega), if_pos (by omega), show wrap64 ((i : Int) + 1) = ((i + 1 : Nat) : Int) by unfold wrap64; omega]
    have hmem : ts.getD i 0 ∈ ts := by rw [List.getD_eq_getElem?_getD, List.getElem?_eq_getElem (by omega)]; exact List.getElem_mem _
    by_cases h : rd ts (i : Int) < m
    · rw [if_pos h]
      rw [rd_nat] at h ⊢
      refine ih (i + 1) k _ (by omega) (by omega) hmem (fun j hj => ?_)
      by_cases e : j = i
      · rw [e]; exact Int.le_refl _
      · have := hle j (by omega); omega
    · rw [if_neg h]
      rw [rd_nat] at h
      refine ih (i + 1) k _ (by omega) (by omega) hm (fun j hj => ?_)
      by_cases e : j = i
      · rw [e]; omega
      · exact hle j (by omega)
theorem markF {L : List (Int × Int)} (hg : Good L) {l ts : List Int} (ht : L.map (·.2) = ts) (hn : L ≠ []) (h24 : ts.length ≤ 24) : Ex.tidemillref19_Mark.f 30 l ts = some (mark L) := by
  have hp : 0 < ts.length := by rw [← ht]; cases L with | nil => exact absurd rfl hn | cons a b => simp
  unfold Ex.tidemillref19_Mark.f
  rw [if_neg (by omega), if_pos (by omega)]
  have h0 : rd ts 0 ∈ ts := by rw [show rd ts 0 = ts.getD 0 0 from rd_nat ts 0, List.getD_eq_getElem?_getD, List.getElem?_eq_getElem (by omega)]; exact List.getElem_mem _
  obtain ⟨r, h1, h2, h3⟩ := markL (l := l) h24 ts.length 0 30 (rd ts 0) (by omega) (by omega) h0 (fun j hj => by omega)
  rw [show ((0 : Nat) : Int) = 0 from rfl] at h1
  rw [h1]
  unfold mark
  rw [if_neg hn]
  congr 1
  symm
  rw [← ht] at h2
  obtain ⟨p, hp1, hp2⟩ := List.mem_map.1 h2
  refine least_eq (fun q hq => ?_) (.inr ⟨p, hp1, hp2⟩) (by rw [← hp2]; exact (hg.vals p hp1).2)
  obtain ⟨j, hj, rfl⟩ := List.getElem_of_mem hq
  have := h3 j (by rw [← ht]; simpa using hj)
  rw [← ht, List.getD_eq_getElem?_getD, List.getElem?_map, List.getElem?_eq_getElem hj] at this
  exact this
theorem sameL (l : List Int) (hl : l.length ≤ 1000) : ∀ (d k i : Nat), i + d = l.length → d < k → Ex.tidemillref01_Same.l0 k l l (i : Int) = some true := by
  intro d
  induction d with
  | zero =>
    intro k i hi hk
    obtain ⟨k, rfl⟩ : ∃ m, k = m + 1 := ⟨k - 1, by omega⟩
    simp only [Ex.tidemillref01_Same.l0]
    rw [if_neg (by omega)]
  | succ d ih =>
    intro k i hi hk
    obtain ⟨k, rfl⟩ : ∃ m, k = m + 1 := ⟨k - 1, by omega⟩
    simp only [Ex.tidemillref01_Same.l0]
    rw [if_pos (by omega), if_pos (by omega), if_pos (by omega), if_pos trivial, show wrap64 ((i : Int) + 1) = ((i + 1 : Nat) : Int) by unfold wrap64; omega]
    exact ih k (i + 1) (by omega) (by omega)
theorem sameF (l : List Int) (hl : l.length ≤ 1000) : Ex.tidemillref01_Same.f 1001 l l = some true := by
  unfold Ex.tidemillref01_Same.f
  rw [if_pos rfl]
  exact sameL l hl l.length 1001 0 (by omega) (by omega)
theorem rseen (A0 : Option Addr) (c0 n : Nat) (l : List Int) (L : List (Int × Int)) (AT : Option Addr) (cT : Nat) (v s : Int) (base : Nat) (w : World) (hk : L.map (·.1) = l) (hn : l.length = n) (hC : (Kd.int .i64).C w A0 n l) (hc0 : n ≤ c0) (hR : (Kd.int .i64).R 2 w base (fun _ => True) (.slice AT n cT) (L.map (·.2))) (hg : Good L) (h24 : n ≤ 24) (hs : seen L v = s) :
    Calls Try.prog 15 #[.agg #[.slice A0 n c0, .slice AT n cT], .int .i64 v] w fun e w' => e = .returned (.int .i64 s) ∧ Below w.heap.size w w' := by
  subst hs
  have hts : (L.map (·.2)).length = n := by rw [← hn, ← hk]; simp
  have h1 := (Kd.R_reads' hR).2.1
  have h2 := (Kd.R_reads' hR).2.2
  have := Ex.tidemillref19_Seen.calls 30 A0 c0 l AT cT (L.map (·.2)) v (seen L v) w (by rw [hn]; exact hC) (by rw [hn]; exact hc0) h2 (by rw [hts]; exact h1) (by unfold Ex.tidemillref19_Seen.f; exact seenL hg hk rfl v (by omega) l.length 0 30 (by omega) (by omega) (fun j hj => by omega))
  rw [hn, hts] at this
  exact this
theorem rmark (A0 : Option Addr) (c0 n : Nat) (l : List Int) (L : List (Int × Int)) (AT : Option Addr) (cT : Nat) (s : Int) (base : Nat) (w : World) (hk : L.map (·.1) = l) (hn : l.length = n) (hC : (Kd.int .i64).C w A0 n l) (hc0 : n ≤ c0) (hR : (Kd.int .i64).R 2 w base (fun _ => True) (.slice AT n cT) (L.map (·.2))) (hg : Good L) (h24 : n ≤ 24) (hpos : 0 < n) (hs : mark L = s) :
    Calls Try.prog 16 #[.agg #[.slice A0 n c0, .slice AT n cT]] w fun e w' => e = .returned (.int .i64 s) ∧ Below w.heap.size w w' := by
  subst hs
  have hts : (L.map (·.2)).length = n := by rw [← hn, ← hk]; simp
  have h1 := (Kd.R_reads' hR).2.1
  have h2 := (Kd.R_reads' hR).2.2
  have := Ex.tidemillref19_Mark.calls 30 A0 c0 l AT cT (L.map (·.2)) (mark L) w (by rw [hn]; exact hC) (by rw [hn]; exact hc0) h2 (by rw [hts]; exact h1) (markF hg rfl (by intro h; subst h; simp at hts; omega) (by omega))
  rw [hn, hts] at this
  exact this
theorem rsee_named (A0 : Option Addr) (c0 n : Nat) (l : List Int) (L L1 : List (Int × Int)) (AT : Option Addr) (cT : Nat) (v t : Int) (q : Bool) (f : Int) (base : Nat) (w : World) (hk : L.map (·.1) = l) (hn : l.length = n) (hC : (Kd.int .i64).C w A0 n l) (hc0 : n ≤ c0) (hR : (Kd.int .i64).R 2 w base (fun _ => True) (.slice AT n cT) (L.map (·.2))) (hb : base ≤ w.heap.size) (hg : Good L) (h24 : n ≤ 24) (hpos : 0 < n) (h1 : (see L v t).1 = L1) (h2 : (see L v t).2.1 = q) (h3 : (see L v t).2.2 = f) :
    Calls Try.prog 14 #[.agg #[.slice A0 n c0, .slice AT n cT], .int .i64 v, .int .i64 t] w fun e w' => ∃ AT2 cT2, e = .returned (.tuple #[.agg #[.slice A0 n c0, .slice AT2 n cT2], .bool q, .int .i64 f]) ∧ (Kd.int .i64).R 2 w' base (fun _ => True) (.slice AT2 n cT2) (L1.map (·.2)) ∧ Below w.heap.size w w' := by
  have hl : (L1.map (·.2)).length = n := by rw [← h1, List.length_map, see_len, ← hn, ← hk, List.length_map]
  subst h1 h2 h3
  refine (rsee A0 c0 n l L (.slice AT n cT) v t base w hk hn hC hc0 hR hb hg h24 hpos).mono ?_
  rintro e w' ⟨tv, rfl, hr, hb2⟩
  obtain ⟨A2, c2, rfl⟩ := Kd.R_slice hr
  rw [hl] at hr ⊢
  exact ⟨_, _, rfl, hr, hb2⟩
theorem R_mk {α : Type} {d : Kd α} {e : Nat} {w w1 : World} {base base1 b bm : Nat} {L : List (Int × Int)} {ys : List α} {v : Value} (hq : d.R e w base (fun _ => True) v ys) (h : MkS w base1 b bm L) (hg : w.grownBy w1 (some bm)) : d.R e w1 base (fun _ => True) v ys := by
  obtain ⟨D, ⟨es, clock, hbb, _⟩, _⟩ := h.map
  exact Kd.R_mono (Kd.R_grown (Kd.R_bound hq) hg (fun k hk => by
    intro he
    injection he with he
    subst he
    obtain ⟨_, _, _, q, _, cells, hc⟩ := hk
    rw [hbb] at hc
    cases hc)) (fun _ _ => trivial)
theorem see_named (b bm base : Nat) (L L' : List (Int × Int)) (v t : Int) (q : Bool) (f : Int) (w : World) (h : MkS w base b bm L) (hv : In64 v) (ht : In64 t) (h1 : (see L v t).1 = L') (h2 : (see L v t).2.1 = q) (h3 : (see L v t).2.2 = f) :
    Calls Try.prog 12 #[.pointer (some ⟨b, 0, none⟩), .int .i64 v, .int .i64 t] w fun e w' => e = .returned (.tuple #[.bool q, .int .i64 f]) ∧ MkS w' base b bm L' ∧ w.grownBy w' (some bm) := by
  subst h1
  subst h2
  subst h3
  exact see_any b bm base L v t w h hv.1 hv.2 ht.1 ht.2
theorem grown_setj (w : World) (b j : Nat) (v : Value) : w.grownBy (w.setCell ⟨b, j, none⟩ v) (some b) :=
  ⟨rfl, rfl, rfl, by simp [World.setCell], fun k _ hk => Below.heap_setCell _ _ _ _ (fun e => hk (by rw [e]))⟩
/-- Both, side by side. -/
structure PS (w wm wr : World) (b bm : Nat) (L1 : List (Int × Int)) (A0 : Option Addr) (n c0 : Nat) (AT : Option Addr) (cT : Nat) (ts : List Int) (g8 : Nat) : Prop where
  mks : MkS wr w.heap.size b bm L1
  row : (Kd.int .i64).R 2 wr wm.heap.size (fun _ => True) (.slice AT n cT) ts
  b8 : wr.heap[g8]? = some (.cells #[.slice A0 n c0, .slice AT n cT] 39 (0, 0))
  bl : Below w.heap.size w wr
  sz : wm.heap.size ≤ wr.heap.size
  l8 : w.heap.size ≤ g8
theorem PS.below {w wm wr w1 : World} {b bm : Nat} {L1 : List (Int × Int)} {A0 : Option Addr} {n c0 : Nat} {AT : Option Addr} {cT : Nat} {ts : List Int} {g8 : Nat} (h : PS w wm wr b bm L1 A0 n c0 AT cT ts g8) (hb : Below wr.heap.size wr w1) : PS w wm w1 b bm L1 A0 n c0 AT cT ts g8 :=
  ⟨h.mks.below hb, Kd.R_below h.row hb, blk_below h.b8 hb, below_step h.bl hb, Nat.le_trans h.sz hb.size, h.l8⟩
theorem MkS.blk {w : World} {base b bm : Nat} {L : List (Int × Int)} (h : MkS w base b bm L) {g : Nat} {cs : Array Value} (hb : w.heap[g]? = some (.cells cs 39 (0, 0))) : bm ≠ g ∧ b ≠ g := by
  obtain ⟨D, ⟨es, clock, hbb, _⟩, _⟩ := h.map
  constructor
  · rintro rfl
    rw [hbb] at hb
    cases hb
  · rintro rfl
    have := h.cell
    rw [hb] at this
    simp at this
theorem PS.see {w wm wr w1 : World} {b bm : Nat} {L L1 : List (Int × Int)} {A0 : Option Addr} {n c0 : Nat} {AT : Option Addr} {cT : Nat} {ts : List Int} {g8 : Nat} (h : PS w wm wr b bm L A0 n c0 AT cT ts g8) (hm : MkS w1 w.heap.size b bm L1) (hg : wr.grownBy w1 (some bm)) : PS w wm w1 b bm L1 A0 n c0 AT cT ts g8 :=
  ⟨hm, R_mk h.row h.mks hg, blk_grown h.b8 hg (by have := (h.mks.blk h.b8).1; simp only [ne_eq, Option.some.injEq]; omega), h.mks.from h.bl (below_size h.bl) hg, Nat.le_trans h.sz hg.size, h.l8⟩
theorem PS.put {w wm wr : World} {b bm : Nat} {L : List (Int × Int)} {A0 : Option Addr} {n c0 : Nat} {AT : Option Addr} {cT : Nat} {ts : List Int} {g8 g : Nat} {cs : Array Value} (h : PS w wm wr b bm L A0 n c0 AT cT ts g8) (hb : wr.heap[g]? = some (.cells cs 39 (0, 0))) (hne : g8 ≠ g) (hl : w.heap.size ≤ g) (j : Nat) (v : Value) : PS w wm (wr.setCell ⟨g, j, none⟩ v) b bm L A0 n c0 AT cT ts g8 :=
  ⟨h.mks.kept (grown_setj _ _ _ _) (by have := (h.mks.blk hb).1; simp only [ne_eq, Option.some.injEq]; omega) (by have := (h.mks.blk hb).2; simp only [ne_eq, Option.some.injEq]; omega), Kd.R_set h.row hb (by decide) j v, blk_far h.b8 (p := ⟨g, j, none⟩) hne v, below_set h.bl hl, by rw [show (wr.setCell ⟨g, j, none⟩ v).heap.size = wr.heap.size by simp [World.setCell]]; exact h.sz, h.l8⟩
theorem cell_below {w w1 : World} {a : Addr} {v : Value} (hb : Below w.heap.size w w1) (h : w.cell? a = some v) : w1.cell? a = some v := pw_cell_below hb h
theorem PS.turn {w wm wr : World} {b bm : Nat} {L : List (Int × Int)} {A0 : Option Addr} {n c0 : Nat} {AT AT2 : Option Addr} {cT cT2 : Nat} {ts ts2 : List Int} {g8 : Nat} (h : PS w wm wr b bm L A0 n c0 AT cT ts g8) (hr : (Kd.int .i64).R 2 wr wm.heap.size (fun _ => True) (.slice AT2 n cT2) ts2) : PS w wm (((wr).setCell ⟨g8, 0, none⟩ (.slice A0 n c0)).setCell ⟨g8, 1, none⟩ (.slice AT2 n cT2)) b bm L A0 n c0 AT2 cT2 ts2 g8 := by
  have hb0 := h.mks.blk h.b8
  have h1 := h.mks.kept (grown_setj wr g8 0 (.slice A0 n c0)) (by simp only [ne_eq, Option.some.injEq]; omega) (by simp only [ne_eq, Option.some.injEq]; omega)
  have h2 := h1.kept (grown_setj _ g8 1 (.slice AT2 n cT2)) (by simp only [ne_eq, Option.some.injEq]; omega) (by simp only [ne_eq, Option.some.injEq]; omega)
  exact ⟨h2, Kd.R_set (Kd.R_set hr h.b8 (by decide) 0 _) (blk_put h.b8 0 _ rfl) (by decide) 1 _, blk_put (blk_put h.b8 0 _ rfl) 1 _ rfl, below_set (j := 1) (v := .slice AT2 n cT2) (below_set (j := 0) (v := .slice A0 n c0) h.bl h.l8) h.l8, by simp only [World.setCell, Array.size_modify]; exact h.sz, h.l8⟩
theorem seen_b (b bm base : Nat) (L : List (Int × Int)) (v s : Int) (w : World) (h : MkS w base b bm L) (hv : In64 v) (hs : seen L v = s) :
    Calls Try.prog 11 #[.pointer (some ⟨b, 0, none⟩), .int .i64 v] w fun e w' => e = .returned (.int .i64 s) ∧ Below w.heap.size w w' := by
  subst hs
  refine (seen_any b bm base L v w h hv.1 hv.2).mono ?_
  rintro e w' ⟨rfl, rfl⟩
  exact ⟨rfl, Below.refl _ _⟩
theorem mark_b (b bm base : Nat) (L : List (Int × Int)) (s : Int) (w : World) (h : MkS w base b bm L) (hs : mark L = s) :
    Calls Try.prog 10 #[.pointer (some ⟨b, 0, none⟩)] w fun e w' => e = .returned (.int .i64 s) ∧ Below w.heap.size w w' := by
  subst hs
  exact mark_any b bm base L w h
theorem stronger_ {P : Program} {ops : Array Oper} {Q : Exit → Act → World → Prop} {md : Region.Mode} {S : World → Prop} (S' : World → Prop) (hS : ∀ w, S' w → S w) : ∀ {fuel : Nat} {l : Array Bool} {a : Act} {w : World},
    S' w → wpAnyLast P md ops Q S' [] fuel l a w → wpAnyLast P md ops Q S [] fuel l a w
  | 0, _, _, _, _, h => h
  | fuel + 1, l, a, w, h0, h => ⟨h.1, fun i hi => wpOp_mono (fun a' w' h' => ⟨fun hn _ => hS w' (h'.1 hn h0), stronger_ S' hS (h'.1 (by simp) h0) h'.2⟩) (h.2 i hi)⟩
theorem initL_snd (l : List Int) : (initL l).map (·.2) = List.replicate l.length (-1) := by
  induction l with
  | nil => rfl
  | cons a l ih => simp only [initL, List.map_cons, List.length_cons, List.replicate_succ] at ih ⊢; rw [ih]
theorem rsame (A6 : Option Addr) (c6 : Nat) (A0 : Option Addr) (c0 n : Nat) (l : List Int) (L : List (Int × Int)) (w : World) (hk : L.map (·.1) = l) (hn : l.length = n) (h24 : n ≤ 24) (hc6 : L.length ≤ c6) (hC6 : (Kd.int .i64).C w A6 L.length (L.map (·.1))) (hC : (Kd.int .i64).C w A0 n l) (hc0 : n ≤ c0) :
    Calls Try.prog 17 #[.slice A6 L.length c6, .slice A0 n c0] w fun e w' => e = .returned (.bool true) ∧ Below w.heap.size w w' := by
  have hl : L.length = n := by rw [← hn, ← hk]; simp
  rw [hk] at hC6
  rw [hl] at hc6 hC6 ⊢
  have := Ex.tidemillref01_Same.calls 1001 A6 c6 l A0 c0 l true w (by rw [hn]; exact hC6) (by rw [hn]; exact hc6) (by rw [hn]; exact hC) (by rw [hn]; exact hc0) (sameF l (by omega))
  rw [hn] at this
  exact this.mono fun e w' h => ⟨h.1, h.2.below⟩
set_option maxHeartbeats 8000000 in
set_option maxRecDepth 100000 in
theorem plays_ok (A0 : Option Addr) (c0 : Nat) (l : List Int) (A1 : Option Addr) (c1 : Nat) (l1 : List (Int × Int)) (w : World) (hr0 : (Kd.int .i64).C w A0 l.length l) (hc0 : l.length ≤ c0) (hN0 : l.length ≤ 9223372036854775807) (hi0 : ∀ x ∈ l, -9223372036854775808 ≤ x ∧ x ≤ 9223372036854775807) (hr1 : kSeen.C w A1 l1.length l1) (hc1 : l1.length ≤ c1) (hN : l1.length ≤ 9223372036854775807) (hi : ∀ p ∈ l1, In64 p.1 ∧ In64 p.2) :
    Calls Try.prog 6 #[.slice A0 l.length c0, .slice A1 l1.length c1] w fun e w' => e = .returned (.bool true) ∧ Below w.heap.size w w' := by
  have HC := Aside0.mk hr1
  have HI := Aside0.mk hi
  have HI0 := Aside0.mk hi0
  obtain ⟨n, HN⟩ : ∃ n, Aside0 (l.length = n) := ⟨_, ⟨rfl⟩⟩
  rw [HN.out] at hr0 hc0 hN0 ⊢
  have HCI := Aside0.mk hr0
  have HCC := Aside0.mk hc0
  clear hr1 hi hr0 hi0 hc0
  have HB := Aside0.mk (Below.refl w.heap.size w)
  go_enter Try.func6, Try.ntmps6
  go_wp2_with fail
  refine (shown_ok _).mono ?_
  rintro e w1 ⟨rfl, hb_⟩
  have n0_ := Aside0.mk (below_step HB.out hb_); clear HB; have HB := n0_; clear n0_; clear hb_
  have HSZ := Aside0.mk HB.out.size
  go_wp2_with fail
  refine (new_any A0 c0 n l _ HN.out (Kd.C_below HCI.out HB.out) HCC.out hN0 HI0.out).mono ?_
  rintro e wm ⟨hb_, hyes, hno⟩
  replace HB := Aside0.mk (below_step HB.out hb_)
  by_cases hok : newOk l
  · obtain ⟨b1, m1, rfl, hm_⟩ := hyes hok
    have HM0 := Aside0.mk (hm_.lower HSZ.out)
    clear hm_ hyes hno hb_
    have hpos : 0 < n := by rw [← HN.out]; exact List.length_pos_iff.2 hok.1
    have h24 : n ≤ 24 := by rw [← HN.out]; exact hok.2.1
    go_wp2_with fail
    refine (rnew A0 c0 n l _ HN.out (Kd.C_below HCI.out HB.out) HCC.out hN0).mono ?_
    rintro e w3 ⟨hb_, hyes, _⟩
    obtain ⟨tv, rfl, hr_⟩ := hyes hok
    obtain ⟨AT, cT, rfl⟩ := Kd.R_slice hr_
    rw [List.length_replicate] at hr_ ⊢
    clear hyes hok
    have HLM := Aside0.mk HB.out.size
    have HLM2 := Aside0.mk hb_.size
    replace HB := Aside0.mk (below_step HB.out hb_)
    replace HM0 := Aside0.mk (HM0.out.below hb_)
    have HR0 := Aside0.mk hr_
    clear hr_ hb_
    go_upto_region 4 with fail
    have BK8 := Aside0.mk (heap_alloc_new w3 (.cells #[.slice A0 n c0, .slice AT n cT] 39))
    have hb_ := below_alloc (Below.refl w3.heap.size w3) (.cells #[.slice A0 n c0, .slice AT n cT] 39)
    have HS : Aside0 (PS w wm (w3.alloc (.cells #[.slice A0 n c0, .slice AT n cT] 39)) b1 m1 (initL l) A0 n c0 AT cT ((initL l).map (·.2)) w3.heap.size) := ⟨⟨HM0.out.below hb_, (by rw [initL_snd, HN.out]; exact Kd.R_below HR0.out hb_), BK8.out, below_step HB.out hb_, Nat.le_trans HLM2.out hb_.size, HB.out.size⟩⟩
    clear hb_ HM0 HR0 HB BK8
    generalize w3.alloc (.cells #[.slice A0 n c0, .slice AT n cT] 39) = w4 at HS ⊢
    generalize w3.heap.size = g8 at HS ⊢
    go_wp2_with fail
    go_loopw [10] (fun v10 wr => ∃ (i : Nat) (L : List (Int × Int)) (AT : Option Addr) (cT : Nat), i ≤ l1.length ∧ i ≤ 200 ∧ v10 = .int .i64 (i : Int) ∧ Aside0 (PS w wm wr b1 m1 L A0 n c0 AT cT (L.map (·.2)) g8) ∧ Aside0 (L.map (·.1) = l)) (fun v10 _ => 200 - (intOf v10).toNat)
    case atStart => exact ⟨0, initL l, AT, cT, by omega, by omega, rfl, HS, ⟨initL_keys l⟩⟩
    case round =>
      clear HS
      obtain ⟨i, L, AT, cT, hi, hi2, rfl, HS, HKY⟩ := hrel
      by_cases hlj : i < l1.length
      · have h1 : decide ((i : Int) < (l1.length : Int)) = true := by simp; omega
        have h1b : decide (i < l1.length) = true := by simp; omega
        by_cases hl2 : i < 200
        · have h2 : decide ((i : Int) < 200) = true := by simp; omega
          have h2b : decide (i < 200) = true := by simp; omega
          obtain ⟨ad, rfl, hx1, hx2⟩ := at_seen (Kd.C_below HC.out HS.out.bl) hlj
          obtain ⟨x, HX⟩ : ∃ x, Aside0 ((pt l1 i).1 = x) := ⟨_, ⟨rfl⟩⟩
          obtain ⟨y, HY⟩ : ∃ x, Aside0 ((pt l1 i).2 = x) := ⟨_, ⟨rfl⟩⟩
          have HCX := Aside0.mk (show ∀ W : World, Below w.heap.size w W → W.cell? (ad.add (i * 2)) = some (.int .i64 x) ∧ W.cell? ⟨(ad.add (i * 2)).block, (ad.add (i * 2)).off + 1, none⟩ = some (.int .i64 y) from fun W hW => by
            obtain ⟨ad2, e2, h1, h2⟩ := at_seen (Kd.C_below HC.out hW) hlj
            injection e2 with e2
            rw [e2, ← HX.out, ← HY.out]
            exact ⟨h1, h2⟩)
          have HI1 := Aside0.mk (HI.out _ (pt_mem hlj))
          rw [HX.out, HY.out] at HI1
          clear hx1 hx2
          have HGD := Aside0.mk HS.out.mks.good
          obtain ⟨L1, HL1⟩ : ∃ z, Aside0 ((see L x y).1 = z) := ⟨_, ⟨rfl⟩⟩
          obtain ⟨q, HQ⟩ : ∃ z, Aside0 ((see L x y).2.1 = z) := ⟨_, ⟨rfl⟩⟩
          obtain ⟨f, HF⟩ : ∃ z, Aside0 ((see L x y).2.2 = z) := ⟨_, ⟨rfl⟩⟩
          obtain ⟨n1, HM1⟩ : ∃ z, Aside0 (mark L1 = z) := ⟨_, ⟨rfl⟩⟩
          obtain ⟨s1, HS1⟩ : ∃ z, Aside0 (seen L1 x = z) := ⟨_, ⟨rfl⟩⟩
          have HKY1 : Aside0 (L1.map (·.1) = l) := ⟨by rw [← HL1.out, see_keys HGD.out, HKY.out]⟩
          have HGD1 : Aside0 (Good L1) := ⟨by rw [← HL1.out]; exact see_good HGD.out x y⟩
          go_wp2_with fail
          refine start_ (n := 17) (S := fun w' => Below wr.heap.size wr w') (ds := [11]) #[false, false, false, false, false, false, false, false, false, false, false, false, false, false, false, false, false] (by kernel_rfl) rfl rfl (below_drew (Below.refl _ _)) (fun hHeld => ?_)
          refine pure_ (i := 0) (N := some 51) (v := ?_) (a' := ?_) #[true, false, false, false, false, false, false, false, false, false, false, false, false, false, false, false, false] rfl rfl (by kernel_rfl) (fun _ _ _ h => h) (Or.inl ⟨by rfl, ?_⟩) ?_ ?_
          rotate_left
          · intro w'
            go_simp
            with_reducible rfl
          rotate_left
          · simp only [Act.put, List.setIfInBounds_toArray, List.set_cons_zero, List.set_cons_succ, i64_w, i32_w]
            rfl
          refine pure_ (i := 1) (N := some 52) (v := ?_) (a' := ?_) #[true, true, false, false, false, false, false, false, false, false, false, false, false, false, false, false, false] rfl rfl (by kernel_rfl) (fun _ _ _ h => h) (Or.inl ⟨by rfl, ?_⟩) ?_ ?_
          rotate_left
          · intro w'
            go_simp
            with_reducible rfl
          rotate_left
          · simp only [Act.put, List.setIfInBounds_toArray, List.set_cons_zero, List.set_cons_succ, i64_w, i32_w]
            rfl
          refine pure_ (i := 2) (N := some 53) (v := ?_) (a' := ?_) #[true, true, true, false, false, false, false, false, false, false, false, false, false, false, false, false, false] rfl rfl (by kernel_rfl) (fun _ _ _ h => h) (Or.inl ⟨by rfl, ?_⟩) ?_ ?_
          rotate_left
          · intro w'
            go_simp
            with_reducible rfl
          rotate_left
          · simp only [Act.put, List.setIfInBounds_toArray, List.set_cons_zero, List.set_cons_succ, i64_w, i32_w]
            rfl
          refine pure_ (i := 3) (N := some 54) (v := ?_) (a' := ?_) #[true, true, true, true, false, false, false, false, false, false, false, false, false, false, false, false, false] rfl rfl (by kernel_rfl) (fun _ _ _ h => h) (Or.inl ⟨by rfl, ?_⟩) ?_ ?_
          rotate_left
          · intro w'
            go_simp
            with_reducible rfl
          rotate_left
          · simp only [Act.put, List.setIfInBounds_toArray, List.set_cons_zero, List.set_cons_succ, i64_w, i32_w]
            rfl
          refine pure_ (i := 4) (N := some 55) (v := ?_) (a' := ?_) #[true, true, true, true, true, false, false, false, false, false, false, false, false, false, false, false, false] rfl rfl (by kernel_rfl) (fun _ _ _ h => h) (Or.inl ⟨by rfl, ?_⟩) ?_ ?_
          rotate_left
          · intro w'
            go_simp
            with_reducible rfl
          rotate_left
          · simp only [Act.put, List.setIfInBounds_toArray, List.set_cons_zero, List.set_cons_succ, i64_w, i32_w]
            rfl
          refine pure_ (i := 6) (N := some 57) (v := ?_) (a' := ?_) #[true, true, true, true, true, false, true, false, false, false, false, false, false, false, false, false, false] rfl rfl (by kernel_rfl) (fun _ _ _ h => h) (Or.inl ⟨by rfl, ?_⟩) ?_ ?_
          rotate_left
          · intro w'
            go_simp
            with_reducible rfl
          rotate_left
          · simp only [Act.put, List.setIfInBounds_toArray, List.set_cons_zero, List.set_cons_succ, i64_w, i32_w]
            rfl
          refine pure_ (i := 7) (N := some 58) (v := ?_) (a' := ?_) #[true, true, true, true, true, false, true, true, false, false, false, false, false, false, false, false, false] rfl rfl (by kernel_rfl) (fun _ _ _ h => h) (Or.inl ⟨by rfl, ?_⟩) ?_ ?_
          rotate_left
          · intro w'
            go_simp
            with_reducible rfl
          rotate_left
          · simp only [Act.put, List.setIfInBounds_toArray, List.set_cons_zero, List.set_cons_succ, i64_w, i32_w]
            rfl
          refine pure_ (i := 8) (N := some 59) (v := ?_) (a' := ?_) #[true, true, true, true, true, false, true, true, true, false, false, false, false, false, false, false, false] rfl rfl (by kernel_rfl) (fun _ _ _ h => h) (Or.inl ⟨by rfl, ?_⟩) ?_ ?_
          rotate_left
          · intro w'
            go_simp
            with_reducible rfl
          rotate_left
          · simp only [Act.put, List.setIfInBounds_toArray, List.set_cons_zero, List.set_cons_succ, i64_w, i32_w]
            rfl
          refine pure_ (i := 9) (N := some 60) (v := ?_) (a' := ?_) #[true, true, true, true, true, false, true, true, true, true, false, false, false, false, false, false, false] rfl rfl (by kernel_rfl) (fun _ _ _ h => h) (Or.inl ⟨by rfl, ?_⟩) ?_ ?_
          rotate_left
          · intro w'
            go_simp
            with_reducible rfl
          rotate_left
          · simp only [Act.put, List.setIfInBounds_toArray, List.set_cons_zero, List.set_cons_succ, i64_w, i32_w]
            rfl
          refine take_ (i := 5) (N := some 56) (v := ?_) (a' := ?_) #[true, true, true, true, true, true, true, true, true, true, false, false, false, false, false, false, false] rfl rfl (by kernel_rfl) (fun _ _ _ h => h) (Or.inl ⟨by rfl, ?_⟩) hHeld ?_ ?_
          rotate_left
          · intro w' hS
            have c_ := (HCX.out _ (below_step HS.out.bl hS)).1
            go_simp
            with_reducible rfl
          rotate_left
          · simp only [Act.put, List.setIfInBounds_toArray, List.set_cons_zero, List.set_cons_succ, i64_w, i32_w]
            rfl
          refine take_ (i := 10) (N := some 61) (v := ?_) (a' := ?_) #[true, true, true, true, true, true, true, true, true, true, true, false, false, false, false, false, false] rfl rfl (by kernel_rfl) (fun _ _ _ h => h) (Or.inl ⟨by rfl, ?_⟩) hHeld ?_ ?_
          rotate_left
          · intro w' hS
            have c_ := (HCX.out _ (below_step HS.out.bl hS)).2
            go_simp
            with_reducible rfl
          rotate_left
          · simp only [Act.put, List.setIfInBounds_toArray, List.set_cons_zero, List.set_cons_succ, i64_w, i32_w]
            rfl
          refine last_ (i := 11) (N := some 62) #[true, true, true, true, true, true, true, true, true, true, true, true, false, false, false, false, false] rfl rfl (by kernel_rfl) (by simp) (fun K hK => ?_)
          refine goes_ Try.func12 (by kernel_rfl) rfl #[.pointer (some ⟨b1, 0, none⟩), .int .i64 x, .int .i64 y] (by rfl) rfl rfl (by simp only [List.map_toArray, List.map_cons, List.map_nil]; rfl) ?_
          with_reducible refine (see_named b1 m1 _ L L1 x y q f _ (HS.out.below (below_drew (Below.refl _ _))).mks HI1.out.1 HI1.out.2 HL1.out HQ.out HF.out).mono ?_
          rintro e w5 ⟨rfl, hn_, hg_⟩
          refine ⟨_, rfl, ?_⟩
          refine hK.out _ _ ?_
          clear hK K
          refine norm_ (a' := ?_) ?_ ?_
          rotate_left
          · show Act.put _ (some 62) _ = _
            simp only [Act.put, List.setIfInBounds_toArray, List.set_cons_zero, List.set_cons_succ, i64_w, i32_w]
            rfl
          replace HS := Aside0.mk ((HS.out.below (below_drew (Below.refl _ _))).see hn_ hg_)
          clear hn_ hg_
          refine pure_ (i := 12) (N := some 50) (v := ?_) (a' := ?_) #[true, true, true, true, true, true, true, true, true, true, true, true, true, false, false, false, false] rfl rfl (by kernel_rfl) (fun _ _ _ h => h) (Or.inl ⟨by rfl, ?_⟩) ?_ ?_
          rotate_left
          · intro w'
            go_simp
            with_reducible rfl
          rotate_left
          · simp only [Act.put, List.setIfInBounds_toArray, List.set_cons_zero, List.set_cons_succ, i64_w, i32_w]
            rfl
          refine pure_ (i := 13) (N := some 63) (v := ?_) (a' := ?_) #[true, true, true, true, true, true, true, true, true, true, true, true, true, true, false, false, false] rfl rfl (by kernel_rfl) (fun _ _ _ h => h) (Or.inl ⟨by rfl, ?_⟩) ?_ ?_
          rotate_left
          · intro w'
            go_simp
            with_reducible rfl
          rotate_left
          · simp only [Act.put, List.setIfInBounds_toArray, List.set_cons_zero, List.set_cons_succ, i64_w, i32_w]
            rfl
          refine pure_ (i := 14) (N := some 64) (v := ?_) (a' := ?_) #[true, true, true, true, true, true, true, true, true, true, true, true, true, true, true, false, false] rfl rfl (by kernel_rfl) (fun _ _ _ h => h) (Or.inl ⟨by rfl, ?_⟩) ?_ ?_
          rotate_left
          · intro w'
            go_simp
            with_reducible rfl
          rotate_left
          · simp only [Act.put, List.setIfInBounds_toArray, List.set_cons_zero, List.set_cons_succ, i64_w, i32_w]
            rfl
          refine pure_ (i := 15) (N := some 11) (v := ?_) (a' := ?_) #[true, true, true, true, true, true, true, true, true, true, true, true, true, true, true, true, false] rfl rfl (by kernel_rfl) (fun _ _ _ h => h) (Or.inl ⟨by rfl, ?_⟩) ?_ ?_
          rotate_left
          · intro w'
            go_simp
            with_reducible rfl
          rotate_left
          · simp only [Act.put, List.setIfInBounds_toArray, List.set_cons_zero, List.set_cons_succ, i64_w, i32_w]
            rfl
          refine pure_ (i := 16) (N := some 12) (v := ?_) (a' := ?_) #[true, true, true, true, true, true, true, true, true, true, true, true, true, true, true, true, true] rfl rfl (by kernel_rfl) (fun _ _ _ h => h) (Or.inl ⟨by rfl, ?_⟩) ?_ ?_
          rotate_left
          · intro w'
            go_simp
            with_reducible rfl
          rotate_left
          · simp only [Act.put, List.setIfInBounds_toArray, List.set_cons_zero, List.set_cons_succ, i64_w, i32_w]
            rfl
          refine done_ (by kernel_rfl) ?_
          go_wp2_with fail
          have HG8 := Aside0.mk (Array.getElem?_eq_some_iff.1 HS.out.b8).1
          refine start_ (n := 20) (S := fun w' => Below w5.heap.size w5 w') (ds := []) #[false, false, false, false, false, false, false, false, false, false, false, false, false, false, false, false, false, false, false, false] (by kernel_rfl) rfl rfl ((below_drew (Below.refl _ _))) (fun hHeld => ?_)
          refine pure_ (i := 1) (N := some 67) (v := ?_) (a' := ?_) #[false, true, false, false, false, false, false, false, false, false, false, false, false, false, false, false, false, false, false, false] rfl rfl (by kernel_rfl) (fun _ _ _ h => h) (Or.inl ⟨by rfl, ?_⟩) ?_ ?_
          rotate_left
          · intro w'
            go_simp
            with_reducible rfl
          rotate_left
          · simp only [Act.put, List.setIfInBounds_toArray, List.set_cons_zero, List.set_cons_succ, i64_w, i32_w]
            rfl
          refine pure_ (i := 2) (N := some 68) (v := ?_) (a' := ?_) #[false, true, true, false, false, false, false, false, false, false, false, false, false, false, false, false, false, false, false, false] rfl rfl (by kernel_rfl) (fun _ _ _ h => h) (Or.inl ⟨by rfl, ?_⟩) ?_ ?_
          rotate_left
          · intro w'
            go_simp
            with_reducible rfl
          rotate_left
          · simp only [Act.put, List.setIfInBounds_toArray, List.set_cons_zero, List.set_cons_succ, i64_w, i32_w]
            rfl
          refine pure_ (i := 3) (N := some 69) (v := ?_) (a' := ?_) #[false, true, true, true, false, false, false, false, false, false, false, false, false, false, false, false, false, false, false, false] rfl rfl (by kernel_rfl) (fun _ _ _ h => h) (Or.inl ⟨by rfl, ?_⟩) ?_ ?_
          rotate_left
          · intro w'
            go_simp
            with_reducible rfl
          rotate_left
          · simp only [Act.put, List.setIfInBounds_toArray, List.set_cons_zero, List.set_cons_succ, i64_w, i32_w]
            rfl
          refine pure_ (i := 4) (N := some 70) (v := ?_) (a' := ?_) #[false, true, true, true, true, false, false, false, false, false, false, false, false, false, false, false, false, false, false, false] rfl rfl (by kernel_rfl) (fun _ _ _ h => h) (Or.inl ⟨by rfl, ?_⟩) ?_ ?_
          rotate_left
          · intro w'
            go_simp
            with_reducible rfl
          rotate_left
          · simp only [Act.put, List.setIfInBounds_toArray, List.set_cons_zero, List.set_cons_succ, i64_w, i32_w]
            rfl
          refine pure_ (i := 6) (N := some 72) (v := ?_) (a' := ?_) #[false, true, true, true, true, false, true, false, false, false, false, false, false, false, false, false, false, false, false, false] rfl rfl (by kernel_rfl) (fun _ _ _ h => h) (Or.inl ⟨by rfl, ?_⟩) ?_ ?_
          rotate_left
          · intro w'
            go_simp
            with_reducible rfl
          rotate_left
          · simp only [Act.put, List.setIfInBounds_toArray, List.set_cons_zero, List.set_cons_succ, i64_w, i32_w]
            rfl
          refine pure_ (i := 7) (N := some 73) (v := ?_) (a' := ?_) #[false, true, true, true, true, false, true, true, false, false, false, false, false, false, false, false, false, false, false, false] rfl rfl (by kernel_rfl) (fun _ _ _ h => h) (Or.inl ⟨by rfl, ?_⟩) ?_ ?_
          rotate_left
          · intro w'
            go_simp
            with_reducible rfl
          rotate_left
          · simp only [Act.put, List.setIfInBounds_toArray, List.set_cons_zero, List.set_cons_succ, i64_w, i32_w]
            rfl
          refine pure_ (i := 8) (N := some 74) (v := ?_) (a' := ?_) #[false, true, true, true, true, false, true, true, true, false, false, false, false, false, false, false, false, false, false, false] rfl rfl (by kernel_rfl) (fun _ _ _ h => h) (Or.inl ⟨by rfl, ?_⟩) ?_ ?_
          rotate_left
          · intro w'
            go_simp
            with_reducible rfl
          rotate_left
          · simp only [Act.put, List.setIfInBounds_toArray, List.set_cons_zero, List.set_cons_succ, i64_w, i32_w]
            rfl
          refine pure_ (i := 9) (N := some 75) (v := ?_) (a' := ?_) #[false, true, true, true, true, false, true, true, true, true, false, false, false, false, false, false, false, false, false, false] rfl rfl (by kernel_rfl) (fun _ _ _ h => h) (Or.inl ⟨by rfl, ?_⟩) ?_ ?_
          rotate_left
          · intro w'
            go_simp
            with_reducible rfl
          rotate_left
          · simp only [Act.put, List.setIfInBounds_toArray, List.set_cons_zero, List.set_cons_succ, i64_w, i32_w]
            rfl
          refine take_ (i := 0) (N := some 66) (v := ?_) (a' := ?_) #[true, true, true, true, true, false, true, true, true, true, false, false, false, false, false, false, false, false, false, false] rfl rfl (by kernel_rfl) (fun _ _ _ h => h) (Or.inl ⟨by rfl, ?_⟩) hHeld ?_ ?_
          rotate_left
          · intro w' hS
            have c0_ := cell_below hS ((blk_cell HS.out.b8 0).trans (rfl : _ = some (.slice A0 n c0 : Value)))
            have c1_ := cell_below hS ((blk_cell HS.out.b8 1).trans (rfl : _ = some (.slice AT n cT : Value)))
            go_simp
            with_reducible rfl
          rotate_left
          · simp only [Act.put, List.setIfInBounds_toArray, List.set_cons_zero, List.set_cons_succ, i64_w, i32_w]
            rfl
          refine take_ (i := 5) (N := some 71) (v := ?_) (a' := ?_) #[true, true, true, true, true, true, true, true, true, true, false, false, false, false, false, false, false, false, false, false] rfl rfl (by kernel_rfl) (fun _ _ _ h => h) (Or.inl ⟨by rfl, ?_⟩) hHeld ?_ ?_
          rotate_left
          · intro w' hS
            have c_ := (HCX.out _ (below_step HS.out.bl hS)).1
            go_simp
            with_reducible rfl
          rotate_left
          · simp only [Act.put, List.setIfInBounds_toArray, List.set_cons_zero, List.set_cons_succ, i64_w, i32_w]
            rfl
          refine take_ (i := 10) (N := some 76) (v := ?_) (a' := ?_) #[true, true, true, true, true, true, true, true, true, true, true, false, false, false, false, false, false, false, false, false] rfl rfl (by kernel_rfl) (fun _ _ _ h => h) (Or.inl ⟨by rfl, ?_⟩) hHeld ?_ ?_
          rotate_left
          · intro w' hS
            have c_ := (HCX.out _ (below_step HS.out.bl hS)).2
            go_simp
            with_reducible rfl
          rotate_left
          · simp only [Act.put, List.setIfInBounds_toArray, List.set_cons_zero, List.set_cons_succ, i64_w, i32_w]
            rfl
          refine two_ (i := 11) (j := 16) (Ni := some 77) (Nj := some 13) #[true, true, true, true, true, true, true, true, true, true, true, true, false, false, false, false, false, false, false, false] #[true, true, true, true, true, true, true, true, true, true, true, false, false, false, false, false, true, false, false, false] rfl rfl rfl rfl (by kernel_rfl) (by simp) (by simp) (fun K hK => ?_) (fun K hK => ?_)
          · skip
            replace HS := Aside0.mk (HS.out.below (below_drew (Below.refl _ _)))
            refine goes_ Try.func14 (by kernel_rfl) rfl #[.agg #[.slice A0 n c0, .slice AT n cT], .int .i64 x, .int .i64 y] (by rfl) rfl rfl (by simp only [List.map_toArray, List.map_cons, List.map_nil]; rfl) ?_
            with_reducible refine (rsee_named A0 c0 n l L L1 AT cT x y q f wm.heap.size _ HKY.out HN.out (Kd.C_below HCI.out HS.out.bl) HCC.out HS.out.row HS.out.sz HGD.out h24 hpos HL1.out HQ.out HF.out).mono ?_
            rintro e w6 ⟨AT2, cT2, rfl, ht_, hb_⟩
            refine ⟨_, rfl, ?_⟩
            refine hK.out _ _ (below_step hHeld hb_) (fun hHeld => ?_)
            clear hK K
            refine norm_ (a' := ?_) ?_ ?_
            rotate_left
            · show Act.put _ (some 77) _ = _
              simp only [Act.put, List.setIfInBounds_toArray, List.set_cons_zero, List.set_cons_succ, i64_w, i32_w]
              rfl
            replace HS := Aside0.mk (HS.out.below hb_)
            have HT2 := Aside0.mk ht_
            clear ht_ hb_
            refine pure_ (i := 12) (N := some 65) (v := ?_) (a' := ?_) #[true, true, true, true, true, true, true, true, true, true, true, true, true, false, false, false, false, false, false, false] rfl rfl (by kernel_rfl) (fun _ _ _ h => h) (Or.inl ⟨by rfl, ?_⟩) ?_ ?_
            rotate_left
            · intro w'
              go_simp
              with_reducible rfl
            rotate_left
            · simp only [Act.put, List.setIfInBounds_toArray, List.set_cons_zero, List.set_cons_succ, i64_w, i32_w]
              rfl
            refine pure_ (i := 13) (N := some 78) (v := ?_) (a' := ?_) #[true, true, true, true, true, true, true, true, true, true, true, true, true, true, false, false, false, false, false, false] rfl rfl (by kernel_rfl) (fun _ _ _ h => h) (Or.inl ⟨by rfl, ?_⟩) ?_ ?_
            rotate_left
            · intro w'
              go_simp
              with_reducible rfl
            rotate_left
            · simp only [Act.put, List.setIfInBounds_toArray, List.set_cons_zero, List.set_cons_succ, i64_w, i32_w]
              rfl
            refine pure_ (i := 14) (N := some 79) (v := ?_) (a' := ?_) #[true, true, true, true, true, true, true, true, true, true, true, true, true, true, true, false, false, false, false, false] rfl rfl (by kernel_rfl) (fun _ _ _ h => h) (Or.inl ⟨by rfl, ?_⟩) ?_ ?_
            rotate_left
            · intro w'
              go_simp
              with_reducible rfl
            rotate_left
            · simp only [Act.put, List.setIfInBounds_toArray, List.set_cons_zero, List.set_cons_succ, i64_w, i32_w]
              rfl
            refine pure_ (i := 15) (N := some 80) (v := ?_) (a' := ?_) #[true, true, true, true, true, true, true, true, true, true, true, true, true, true, true, true, false, false, false, false] rfl rfl (by kernel_rfl) (fun _ _ _ h => h) (Or.inl ⟨by rfl, ?_⟩) ?_ ?_
            rotate_left
            · intro w'
              go_simp
              with_reducible rfl
            rotate_left
            · simp only [Act.put, List.setIfInBounds_toArray, List.set_cons_zero, List.set_cons_succ, i64_w, i32_w]
              rfl
            refine one_ (i := 16) (N := some 13) #[true, true, true, true, true, true, true, true, true, true, true, true, true, true, true, true, true, false, false, false] rfl rfl (by kernel_rfl) (by simp) (fun K hK => ?_)
            have HL13 : Aside0 (w5.heap.size ≤ (w6).heap.size) := ⟨hHeld.size⟩
            refine value_ (w1 := (w6).alloc (.cells #[.slice none 0 0, .slice none 0 0] 39)) (v := .pointer (some ⟨(w6).heap.size, 0, none⟩)) (by rfl) rfl (by first | (go_simp; done) | (go_simp; rfl)) ?_
            refine hK.out _ _ (below_alloc hHeld _) (fun hHeld => ?_)
            clear hK K
            refine norm_ (a' := ?_) ?_ ?_
            rotate_left
            · show Act.put _ (some 13) _ = _
              simp only [Act.put, List.setIfInBounds_toArray, List.set_cons_zero, List.set_cons_succ, i64_w, i32_w]
              rfl
            have BK13 := Aside0.mk (heap_alloc_new (w6) (.cells #[.slice none 0 0, .slice none 0 0] 39))
            have hb_ := below_alloc (Below.refl (w6).heap.size (w6)) (.cells #[.slice none 0 0, .slice none 0 0] 39)
            replace HS := Aside0.mk (HS.out.below hb_)
            replace HT2 := Aside0.mk (Kd.R_below HT2.out hb_)
            clear hb_
            generalize (w6).alloc (.cells #[.slice none 0 0, .slice none 0 0] 39) = w7 at BK13 HS hHeld HT2 ⊢
            generalize (w6).heap.size = g13 at BK13 HL13 ⊢
            refine one_ (i := 17) (N := none) #[true, true, true, true, true, true, true, true, true, true, true, true, true, true, true, true, true, true, false, false] rfl rfl (by kernel_rfl) (by simp) (fun K hK => ?_)
            have d0_ := (blk_cell BK13.out 0).trans (rfl : _ = some (.slice none 0 0 : Value))
            have d1_ := (blk_cell BK13.out 1).trans (rfl : _ = some (.slice none 0 0 : Value))
            have k0_ := blk_frozen BK13.out 0
            have k1_ := blk_frozen BK13.out 1
            have HN13 : Aside0 (g8 ≠ g13) := ⟨by have := HG8.out; have := HL13.out; omega⟩
            have HLW : Aside0 (w.heap.size ≤ g13) := ⟨Nat.le_trans (Nat.le_trans HS.out.l8 (Nat.le_of_lt HG8.out)) HL13.out⟩
            refine skip_ (w1 := ((w7).setCell ⟨g13, 0, none⟩ (.slice A0 n c0)).setCell ⟨g13, 1, none⟩ (.slice AT2 n cT2)) (by rfl) rfl (by go_simp; done) ?_
            refine hK.out _ _ (below_set (j := 1) (v := .slice AT2 n cT2) (below_set (j := 0) (v := .slice A0 n c0) hHeld HL13.out) HL13.out) (fun hHeld => ?_)
            clear hK K
            replace HS := Aside0.mk ((HS.out.put BK13.out HN13.out HLW.out 0 (.slice A0 n c0)).put (blk_put BK13.out 0 (.slice A0 n c0) rfl) HN13.out HLW.out 1 (.slice AT2 n cT2))
            replace HT2 := Aside0.mk (Kd.R_set (Kd.R_set HT2.out BK13.out (by decide) 0 (.slice A0 n c0)) (blk_put BK13.out 0 (.slice A0 n c0) rfl) (by decide) 1 (.slice AT2 n cT2))
            replace BK13 : Aside0 ((((w7).setCell ⟨g13, 0, none⟩ (.slice A0 n c0)).setCell ⟨g13, 1, none⟩ (.slice AT2 n cT2)).heap[g13]? = some (.cells #[.slice A0 n c0, .slice AT2 n cT2] 39 (0, 0))) := ⟨blk_put (blk_put BK13.out 0 _ rfl) 1 _ rfl⟩
            clear d0_ d1_ k0_ k1_
            generalize ((w7).setCell ⟨g13, 0, none⟩ (.slice A0 n c0)).setCell ⟨g13, 1, none⟩ (.slice AT2 n cT2) = w8 at HS HT2 BK13 hHeld ⊢
            refine pure_ (i := 18) (N := some 14) (v := ?_) (a' := ?_) #[true, true, true, true, true, true, true, true, true, true, true, true, true, true, true, true, true, true, true, false] rfl rfl (by kernel_rfl) (fun _ _ _ h => h) (Or.inl ⟨by rfl, ?_⟩) ?_ ?_
            rotate_left
            · intro w'
              go_simp
              with_reducible rfl
            rotate_left
            · simp only [Act.put, List.setIfInBounds_toArray, List.set_cons_zero, List.set_cons_succ, i64_w, i32_w]
              rfl
            refine pure_ (i := 19) (N := some 15) (v := ?_) (a' := ?_) #[true, true, true, true, true, true, true, true, true, true, true, true, true, true, true, true, true, true, true, true] rfl rfl (by kernel_rfl) (fun _ _ _ h => h) (Or.inl ⟨by rfl, ?_⟩) ?_ ?_
            rotate_left
            · intro w'
              go_simp
              with_reducible rfl
            rotate_left
            · simp only [Act.put, List.setIfInBounds_toArray, List.set_cons_zero, List.set_cons_succ, i64_w, i32_w]
              rfl
            refine done_ (by kernel_rfl) ?_
            have e0_ := (blk_cell BK13.out 0).trans (rfl : _ = some (.slice A0 n c0 : Value))
            have e1_ := (blk_cell BK13.out 1).trans (rfl : _ = some (.slice AT2 n cT2 : Value))
            have d0_ := (blk_cell HS.out.b8 0).trans (rfl : _ = some (.slice A0 n c0 : Value))
            have d1_ := (blk_cell HS.out.b8 1).trans (rfl : _ = some (.slice AT n cT : Value))
            have k0_ := blk_frozen HS.out.b8 0
            have k1_ := blk_frozen HS.out.b8 1
            go_upto_region 14 with fail
            have HS9 : Aside0 (PS w wm (((w8).setCell ⟨g8, 0, none⟩ (.slice A0 n c0)).setCell ⟨g8, 1, none⟩ (.slice AT2 n cT2)) b1 m1 L1 A0 n c0 AT2 cT2 (L1.map (·.2)) g8) := ⟨HS.out.turn HT2.out⟩
            clear HS HT2 BK13 e0_ e1_ d0_ d1_ k0_ k1_
            have HS := HS9
            clear HS9
            generalize ((w8).setCell ⟨g8, 0, none⟩ (.slice A0 n c0)).setCell ⟨g8, 1, none⟩ (.slice AT2 n cT2) = w9 at HS ⊢
            refine start_ (n := 32) (S := fun w' => Below w9.heap.size w9 w') (ds := []) #[false, false, false, false, false, false, false, false, false, false, false, false, false, false, false, false, false, false, false, false, false, false, false, false, false, false, false, false, false, false, false, false] (by kernel_rfl) rfl rfl (below_drew (Below.refl _ _)) (fun hHeld => ?_)
            refine pure_ (i := 0) (N := some 82) (v := ?_) (a' := ?_) #[true, false, false, false, false, false, false, false, false, false, false, false, false, false, false, false, false, false, false, false, false, false, false, false, false, false, false, false, false, false, false, false] rfl rfl (by kernel_rfl) (fun _ _ _ h => h) (Or.inl ⟨by rfl, ?_⟩) ?_ ?_
            rotate_left
            · intro w'
              go_simp
              with_reducible rfl
            rotate_left
            · simp only [Act.put, List.setIfInBounds_toArray, List.set_cons_zero, List.set_cons_succ, i64_w, i32_w]
              rfl
            refine pure_ (i := 1) (N := some 83) (v := ?_) (a' := ?_) #[true, true, false, false, false, false, false, false, false, false, false, false, false, false, false, false, false, false, false, false, false, false, false, false, false, false, false, false, false, false, false, false] rfl rfl (by kernel_rfl) (fun _ _ _ h => h) (Or.inl ⟨by rfl, ?_⟩) ?_ ?_
            rotate_left
            · intro w'
              go_simp
              with_reducible rfl
            rotate_left
            · simp only [Act.put, List.setIfInBounds_toArray, List.set_cons_zero, List.set_cons_succ, i64_w, i32_w]
              rfl
            refine pure_ (i := 2) (N := some 84) (v := ?_) (a' := ?_) #[true, true, true, false, false, false, false, false, false, false, false, false, false, false, false, false, false, false, false, false, false, false, false, false, false, false, false, false, false, false, false, false] rfl rfl (by kernel_rfl) (fun _ _ _ h => h) (Or.inl ⟨by rfl, ?_⟩) ?_ ?_
            rotate_left
            · intro w'
              go_simp
              (try simp only [bne_self_eq_false, beq_self_eq_true])
              with_reducible rfl
            rotate_left
            · simp only [Act.put, List.setIfInBounds_toArray, List.set_cons_zero, List.set_cons_succ, i64_w, i32_w]
              rfl
            refine pure_ (i := 3) (N := some 85) (v := ?_) (a' := ?_) #[true, true, true, true, false, false, false, false, false, false, false, false, false, false, false, false, false, false, false, false, false, false, false, false, false, false, false, false, false, false, false, false] rfl rfl (by kernel_rfl) (fun _ _ _ h => h) (Or.inl ⟨by rfl, ?_⟩) ?_ ?_
            rotate_left
            · intro w'
              go_simp
              with_reducible rfl
            rotate_left
            · simp only [Act.put, List.setIfInBounds_toArray, List.set_cons_zero, List.set_cons_succ, i64_w, i32_w]
              rfl
            refine pure_ (i := 4) (N := some 86) (v := ?_) (a' := ?_) #[true, true, true, true, true, false, false, false, false, false, false, false, false, false, false, false, false, false, false, false, false, false, false, false, false, false, false, false, false, false, false, false] rfl rfl (by kernel_rfl) (fun _ _ _ h => h) (Or.inl ⟨by rfl, ?_⟩) ?_ ?_
            rotate_left
            · intro w'
              go_simp
              with_reducible rfl
            rotate_left
            · simp only [Act.put, List.setIfInBounds_toArray, List.set_cons_zero, List.set_cons_succ, i64_w, i32_w]
              rfl
            refine pure_ (i := 5) (N := some 87) (v := ?_) (a' := ?_) #[true, true, true, true, true, true, false, false, false, false, false, false, false, false, false, false, false, false, false, false, false, false, false, false, false, false, false, false, false, false, false, false] rfl rfl (by kernel_rfl) (fun _ _ _ h => h) (Or.inl ⟨by rfl, ?_⟩) ?_ ?_
            rotate_left
            · intro w'
              go_simp
              with_reducible rfl
            rotate_left
            · simp only [Act.put, List.setIfInBounds_toArray, List.set_cons_zero, List.set_cons_succ, i64_w, i32_w]
              rfl
            refine pure_ (i := 6) (N := some 88) (v := ?_) (a' := ?_) #[true, true, true, true, true, true, true, false, false, false, false, false, false, false, false, false, false, false, false, false, false, false, false, false, false, false, false, false, false, false, false, false] rfl rfl (by kernel_rfl) (fun _ _ _ h => h) (Or.inl ⟨by rfl, ?_⟩) ?_ ?_
            rotate_left
            · intro w'
              go_simp
              (try simp only [bne_self_eq_false, beq_self_eq_true])
              with_reducible rfl
            rotate_left
            · simp only [Act.put, List.setIfInBounds_toArray, List.set_cons_zero, List.set_cons_succ, i64_w, i32_w]
              rfl
            refine pure_ (i := 7) (N := some 89) (v := ?_) (a' := ?_) #[true, true, true, true, true, true, true, true, false, false, false, false, false, false, false, false, false, false, false, false, false, false, false, false, false, false, false, false, false, false, false, false] rfl rfl (by kernel_rfl) (fun _ _ _ h => h) (Or.inl ⟨by rfl, ?_⟩) ?_ ?_
            rotate_left
            · intro w'
              go_simp
              with_reducible rfl
            rotate_left
            · simp only [Act.put, List.setIfInBounds_toArray, List.set_cons_zero, List.set_cons_succ, i64_w, i32_w]
              rfl
            refine pure_ (i := 8) (N := some 90) (v := ?_) (a' := ?_) #[true, true, true, true, true, true, true, true, true, false, false, false, false, false, false, false, false, false, false, false, false, false, false, false, false, false, false, false, false, false, false, false] rfl rfl (by kernel_rfl) (fun _ _ _ h => h) (Or.inl ⟨by rfl, ?_⟩) ?_ ?_
            rotate_left
            · intro w'
              go_simp
              with_reducible rfl
            rotate_left
            · simp only [Act.put, List.setIfInBounds_toArray, List.set_cons_zero, List.set_cons_succ, i64_w, i32_w]
              rfl
            refine pure_ (i := 9) (N := some 91) (v := ?_) (a' := ?_) #[true, true, true, true, true, true, true, true, true, true, false, false, false, false, false, false, false, false, false, false, false, false, false, false, false, false, false, false, false, false, false, false] rfl rfl (by kernel_rfl) (fun _ _ _ h => h) (Or.inl ⟨by rfl, ?_⟩) ?_ ?_
            rotate_left
            · intro w'
              go_simp
              with_reducible rfl
            rotate_left
            · simp only [Act.put, List.setIfInBounds_toArray, List.set_cons_zero, List.set_cons_succ, i64_w, i32_w]
              rfl
            refine pure_ (i := 10) (N := some 92) (v := ?_) (a' := ?_) #[true, true, true, true, true, true, true, true, true, true, true, false, false, false, false, false, false, false, false, false, false, false, false, false, false, false, false, false, false, false, false, false] rfl rfl (by kernel_rfl) (fun _ _ _ h => h) (Or.inl ⟨by rfl, ?_⟩) ?_ ?_
            rotate_left
            · intro w'
              go_simp
              with_reducible rfl
            rotate_left
            · simp only [Act.put, List.setIfInBounds_toArray, List.set_cons_zero, List.set_cons_succ, i64_w, i32_w]
              rfl
            refine pure_ (i := 11) (N := some 93) (v := ?_) (a' := ?_) #[true, true, true, true, true, true, true, true, true, true, true, true, false, false, false, false, false, false, false, false, false, false, false, false, false, false, false, false, false, false, false, false] rfl rfl (by kernel_rfl) (fun _ _ _ h => h) (Or.inl ⟨by rfl, ?_⟩) ?_ ?_
            rotate_left
            · intro w'
              go_simp
              with_reducible rfl
            rotate_left
            · simp only [Act.put, List.setIfInBounds_toArray, List.set_cons_zero, List.set_cons_succ, i64_w, i32_w]
              rfl
            refine pure_ (i := 12) (N := some 94) (v := ?_) (a' := ?_) #[true, true, true, true, true, true, true, true, true, true, true, true, true, false, false, false, false, false, false, false, false, false, false, false, false, false, false, false, false, false, false, false] rfl rfl (by kernel_rfl) (fun _ _ _ h => h) (Or.inl ⟨by rfl, ?_⟩) ?_ ?_
            rotate_left
            · intro w'
              go_simp
              with_reducible rfl
            rotate_left
            · simp only [Act.put, List.setIfInBounds_toArray, List.set_cons_zero, List.set_cons_succ, i64_w, i32_w]
              rfl
            refine pure_ (i := 13) (N := some 95) (v := ?_) (a' := ?_) #[true, true, true, true, true, true, true, true, true, true, true, true, true, true, false, false, false, false, false, false, false, false, false, false, false, false, false, false, false, false, false, false] rfl rfl (by kernel_rfl) (fun _ _ _ h => h) (Or.inl ⟨by rfl, ?_⟩) ?_ ?_
            rotate_left
            · intro w'
              go_simp
              with_reducible rfl
            rotate_left
            · simp only [Act.put, List.setIfInBounds_toArray, List.set_cons_zero, List.set_cons_succ, i64_w, i32_w]
              rfl
            refine pure_ (i := 17) (N := some 99) (v := ?_) (a' := ?_) #[true, true, true, true, true, true, true, true, true, true, true, true, true, true, false, false, false, true, false, false, false, false, false, false, false, false, false, false, false, false, false, false] rfl rfl (by kernel_rfl) (fun _ _ _ h => h) (Or.inl ⟨by rfl, ?_⟩) ?_ ?_
            rotate_left
            · intro w'
              go_simp
              with_reducible rfl
            rotate_left
            · simp only [Act.put, List.setIfInBounds_toArray, List.set_cons_zero, List.set_cons_succ, i64_w, i32_w]
              rfl
            refine pure_ (i := 18) (N := some 100) (v := ?_) (a' := ?_) #[true, true, true, true, true, true, true, true, true, true, true, true, true, true, false, false, false, true, true, false, false, false, false, false, false, false, false, false, false, false, false, false] rfl rfl (by kernel_rfl) (fun _ _ _ h => h) (Or.inl ⟨by rfl, ?_⟩) ?_ ?_
            rotate_left
            · intro w'
              go_simp
              with_reducible rfl
            rotate_left
            · simp only [Act.put, List.setIfInBounds_toArray, List.set_cons_zero, List.set_cons_succ, i64_w, i32_w]
              rfl
            refine pure_ (i := 19) (N := some 101) (v := ?_) (a' := ?_) #[true, true, true, true, true, true, true, true, true, true, true, true, true, true, false, false, false, true, true, true, false, false, false, false, false, false, false, false, false, false, false, false] rfl rfl (by kernel_rfl) (fun _ _ _ h => h) (Or.inl ⟨by rfl, ?_⟩) ?_ ?_
            rotate_left
            · intro w'
              go_simp
              with_reducible rfl
            rotate_left
            · simp only [Act.put, List.setIfInBounds_toArray, List.set_cons_zero, List.set_cons_succ, i64_w, i32_w]
              rfl
            refine pure_ (i := 20) (N := some 102) (v := ?_) (a' := ?_) #[true, true, true, true, true, true, true, true, true, true, true, true, true, true, false, false, false, true, true, true, true, false, false, false, false, false, false, false, false, false, false, false] rfl rfl (by kernel_rfl) (fun _ _ _ h => h) (Or.inl ⟨by rfl, ?_⟩) ?_ ?_
            rotate_left
            · intro w'
              go_simp
              with_reducible rfl
            rotate_left
            · simp only [Act.put, List.setIfInBounds_toArray, List.set_cons_zero, List.set_cons_succ, i64_w, i32_w]
              rfl
            refine take_ (i := 14) (N := some 96) (v := ?_) (a' := ?_) #[true, true, true, true, true, true, true, true, true, true, true, true, true, true, true, false, false, true, true, true, true, false, false, false, false, false, false, false, false, false, false, false] rfl rfl (by kernel_rfl) (fun _ _ _ h => h) (Or.inl ⟨by rfl, ?_⟩) hHeld ?_ ?_
            rotate_left
            · intro w' hS
              have c_ := (HCX.out _ (below_step HS.out.bl hS)).1
              go_simp
              with_reducible rfl
            rotate_left
            · simp only [Act.put, List.setIfInBounds_toArray, List.set_cons_zero, List.set_cons_succ, i64_w, i32_w]
              rfl
            refine take_ (i := 16) (N := some 98) (v := ?_) (a' := ?_) #[true, true, true, true, true, true, true, true, true, true, true, true, true, true, true, false, true, true, true, true, true, false, false, false, false, false, false, false, false, false, false, false] rfl rfl (by kernel_rfl) (fun _ _ _ h => h) (Or.inl ⟨by rfl, ?_⟩) hHeld ?_ ?_
            rotate_left
            · intro w' hS
              have c0_ := cell_below hS ((blk_cell HS.out.b8 0).trans (rfl : _ = some (.slice A0 n c0 : Value)))
              have c1_ := cell_below hS ((blk_cell HS.out.b8 1).trans (rfl : _ = some (.slice AT2 n cT2 : Value)))
              go_simp
              with_reducible rfl
            rotate_left
            · simp only [Act.put, List.setIfInBounds_toArray, List.set_cons_zero, List.set_cons_succ, i64_w, i32_w]
              rfl
            refine take_ (i := 21) (N := some 103) (v := ?_) (a' := ?_) #[true, true, true, true, true, true, true, true, true, true, true, true, true, true, true, false, true, true, true, true, true, true, false, false, false, false, false, false, false, false, false, false] rfl rfl (by kernel_rfl) (fun _ _ _ h => h) (Or.inl ⟨by rfl, ?_⟩) hHeld ?_ ?_
            rotate_left
            · intro w' hS
              have c_ := (HCX.out _ (below_step HS.out.bl hS)).1
              go_simp
              with_reducible rfl
            rotate_left
            · simp only [Act.put, List.setIfInBounds_toArray, List.set_cons_zero, List.set_cons_succ, i64_w, i32_w]
              rfl
            refine one_ (i := 15) (N := some 97) #[true, true, true, true, true, true, true, true, true, true, true, true, true, true, true, true, true, true, true, true, true, true, false, false, false, false, false, false, false, false, false, false] rfl rfl (by kernel_rfl) (by simp) (fun K hK => ?_)
            refine goes_ Try.func11 (by kernel_rfl) rfl #[.pointer (some ⟨b1, 0, none⟩), .int .i64 x] (by rfl) rfl rfl (by simp only [List.map_toArray, List.map_cons, List.map_nil]; rfl) ?_
            with_reducible refine (seen_b b1 m1 _ L1 x s1 _ (HS.out.below (below_drew (Below.refl _ _))).mks HI1.out.1 HS1.out).mono ?_
            rintro e w10 ⟨rfl, hb_⟩
            refine ⟨_, rfl, ?_⟩
            replace hb_ := below_step hHeld hb_
            refine hK.out _ _ hb_ (fun _ => ?_)
            clear hK K hHeld
            refine norm_ (a' := ?_) ?_ ?_
            rotate_left
            · show Act.put _ (some 97) _ = _
              simp only [Act.put, List.setIfInBounds_toArray, List.set_cons_zero, List.set_cons_succ, i64_w, i32_w]
              rfl
            refine stronger_ (S' := fun w' => Below w10.heap.size w10 w') (fun w' h => below_step hb_ h) (Below.refl _ _) ?_
            have hHeld := Below.refl w10.heap.size w10
            replace HS := Aside0.mk (HS.out.below hb_)
            clear hb_
            refine one_ (i := 22) (N := some 104) #[true, true, true, true, true, true, true, true, true, true, true, true, true, true, true, true, true, true, true, true, true, true, true, false, false, false, false, false, false, false, false, false] rfl rfl (by kernel_rfl) (by simp) (fun K hK => ?_)
            refine goes_ Try.func15 (by kernel_rfl) rfl #[.agg #[.slice A0 n c0, .slice AT2 n cT2], .int .i64 x] (by rfl) rfl rfl (by simp only [List.map_toArray, List.map_cons, List.map_nil]; rfl) ?_
            with_reducible refine (rseen A0 c0 n l L1 AT2 cT2 x s1 wm.heap.size _ HKY1.out HN.out (Kd.C_below HCI.out HS.out.bl) HCC.out HS.out.row HGD1.out h24 HS1.out).mono ?_
            rintro e w11 ⟨rfl, hb_⟩
            refine ⟨_, rfl, ?_⟩
            replace hb_ := below_step hHeld hb_
            refine hK.out _ _ hb_ (fun _ => ?_)
            clear hK K hHeld
            refine norm_ (a' := ?_) ?_ ?_
            rotate_left
            · show Act.put _ (some 104) _ = _
              simp only [Act.put, List.setIfInBounds_toArray, List.set_cons_zero, List.set_cons_succ, i64_w, i32_w]
              rfl
            refine stronger_ (S' := fun w' => Below w11.heap.size w11 w') (fun w' h => below_step hb_ h) (Below.refl _ _) ?_
            have hHeld := Below.refl w11.heap.size w11
            replace HS := Aside0.mk (HS.out.below hb_)
            clear hb_
            refine pure_ (i := 23) (N := some 105) (v := ?_) (a' := ?_) #[true, true, true, true, true, true, true, true, true, true, true, true, true, true, true, true, true, true, true, true, true, true, true, true, false, false, false, false, false, false, false, false] rfl rfl (by kernel_rfl) (fun _ _ _ h => h) (Or.inl ⟨by rfl, ?_⟩) ?_ ?_
            rotate_left
            · intro w'
              go_simp
              (try simp only [bne_self_eq_false, beq_self_eq_true])
              with_reducible rfl
            rotate_left
            · simp only [Act.put, List.setIfInBounds_toArray, List.set_cons_zero, List.set_cons_succ, i64_w, i32_w]
              rfl
            refine pure_ (i := 24) (N := some 106) (v := ?_) (a' := ?_) #[true, true, true, true, true, true, true, true, true, true, true, true, true, true, true, true, true, true, true, true, true, true, true, true, true, false, false, false, false, false, false, false] rfl rfl (by kernel_rfl) (fun _ _ _ h => h) (Or.inl ⟨by rfl, ?_⟩) ?_ ?_
            rotate_left
            · intro w'
              go_simp
              with_reducible rfl
            rotate_left
            · simp only [Act.put, List.setIfInBounds_toArray, List.set_cons_zero, List.set_cons_succ, i64_w, i32_w]
              rfl
            refine pure_ (i := 25) (N := some 107) (v := ?_) (a' := ?_) #[true, true, true, true, true, true, true, true, true, true, true, true, true, true, true, true, true, true, true, true, true, true, true, true, true, true, false, false, false, false, false, false] rfl rfl (by kernel_rfl) (fun _ _ _ h => h) (Or.inl ⟨by rfl, ?_⟩) ?_ ?_
            rotate_left
            · intro w'
              go_simp
              with_reducible rfl
            rotate_left
            · simp only [Act.put, List.setIfInBounds_toArray, List.set_cons_zero, List.set_cons_succ, i64_w, i32_w]
              rfl
            refine pure_ (i := 26) (N := some 108) (v := ?_) (a' := ?_) #[true, true, true, true, true, true, true, true, true, true, true, true, true, true, true, true, true, true, true, true, true, true, true, true, true, true, true, false, false, false, false, false] rfl rfl (by kernel_rfl) (fun _ _ _ h => h) (Or.inl ⟨by rfl, ?_⟩) ?_ ?_
            rotate_left
            · intro w'
              go_simp
              with_reducible rfl
            rotate_left
            · simp only [Act.put, List.setIfInBounds_toArray, List.set_cons_zero, List.set_cons_succ, i64_w, i32_w]
              rfl
            refine take_ (i := 28) (N := some 110) (v := ?_) (a' := ?_) #[true, true, true, true, true, true, true, true, true, true, true, true, true, true, true, true, true, true, true, true, true, true, true, true, true, true, true, false, true, false, false, false] rfl rfl (by kernel_rfl) (fun _ _ _ h => h) (Or.inl ⟨by rfl, ?_⟩) hHeld ?_ ?_
            rotate_left
            · intro w' hS
              have c0_ := cell_below hS ((blk_cell HS.out.b8 0).trans (rfl : _ = some (.slice A0 n c0 : Value)))
              have c1_ := cell_below hS ((blk_cell HS.out.b8 1).trans (rfl : _ = some (.slice AT2 n cT2 : Value)))
              go_simp
              with_reducible rfl
            rotate_left
            · simp only [Act.put, List.setIfInBounds_toArray, List.set_cons_zero, List.set_cons_succ, i64_w, i32_w]
              rfl
            refine one_ (i := 27) (N := some 109) #[true, true, true, true, true, true, true, true, true, true, true, true, true, true, true, true, true, true, true, true, true, true, true, true, true, true, true, true, true, false, false, false] rfl rfl (by kernel_rfl) (by simp) (fun K hK => ?_)
            refine goes_ Try.func10 (by kernel_rfl) rfl #[.pointer (some ⟨b1, 0, none⟩)] (by rfl) rfl rfl (by simp only [List.map_toArray, List.map_cons, List.map_nil]; rfl) ?_
            with_reducible refine (mark_b b1 m1 _ L1 n1 _ HS.out.mks HM1.out).mono ?_
            rintro e w12 ⟨rfl, hb_⟩
            refine ⟨_, rfl, ?_⟩
            replace hb_ := below_step hHeld hb_
            refine hK.out _ _ hb_ (fun _ => ?_)
            clear hK K hHeld
            refine norm_ (a' := ?_) ?_ ?_
            rotate_left
            · show Act.put _ (some 109) _ = _
              simp only [Act.put, List.setIfInBounds_toArray, List.set_cons_zero, List.set_cons_succ, i64_w, i32_w]
              rfl
            refine stronger_ (S' := fun w' => Below w12.heap.size w12 w') (fun w' h => below_step hb_ h) (Below.refl _ _) ?_
            have hHeld := Below.refl w12.heap.size w12
            replace HS := Aside0.mk (HS.out.below hb_)
            clear hb_
            refine one_ (i := 29) (N := some 111) #[true, true, true, true, true, true, true, true, true, true, true, true, true, true, true, true, true, true, true, true, true, true, true, true, true, true, true, true, true, true, false, false] rfl rfl (by kernel_rfl) (by simp) (fun K hK => ?_)
            refine goes_ Try.func16 (by kernel_rfl) rfl #[.agg #[.slice A0 n c0, .slice AT2 n cT2]] (by rfl) rfl rfl (by simp only [List.map_toArray, List.map_cons, List.map_nil]; rfl) ?_
            with_reducible refine (rmark A0 c0 n l L1 AT2 cT2 n1 wm.heap.size _ HKY1.out HN.out (Kd.C_below HCI.out HS.out.bl) HCC.out HS.out.row HGD1.out h24 hpos HM1.out).mono ?_
            rintro e w13 ⟨rfl, hb_⟩
            refine ⟨_, rfl, ?_⟩
            replace hb_ := below_step hHeld hb_
            refine hK.out _ _ hb_ (fun _ => ?_)
            clear hK K hHeld
            refine norm_ (a' := ?_) ?_ ?_
            rotate_left
            · show Act.put _ (some 111) _ = _
              simp only [Act.put, List.setIfInBounds_toArray, List.set_cons_zero, List.set_cons_succ, i64_w, i32_w]
              rfl
            refine stronger_ (S' := fun w' => Below w13.heap.size w13 w') (fun w' h => below_step hb_ h) (Below.refl _ _) ?_
            have hHeld := Below.refl w13.heap.size w13
            replace HS := Aside0.mk (HS.out.below hb_)
            clear hb_
            refine pure_ (i := 30) (N := some 112) (v := ?_) (a' := ?_) #[true, true, true, true, true, true, true, true, true, true, true, true, true, true, true, true, true, true, true, true, true, true, true, true, true, true, true, true, true, true, true, false] rfl rfl (by kernel_rfl) (fun _ _ _ h => h) (Or.inl ⟨by rfl, ?_⟩) ?_ ?_
            rotate_left
            · intro w'
              go_simp
              (try simp only [bne_self_eq_false, beq_self_eq_true])
              with_reducible rfl
            rotate_left
            · simp only [Act.put, List.setIfInBounds_toArray, List.set_cons_zero, List.set_cons_succ, i64_w, i32_w]
              rfl
            refine pure_ (i := 31) (N := some 113) (v := ?_) (a' := ?_) #[true, true, true, true, true, true, true, true, true, true, true, true, true, true, true, true, true, true, true, true, true, true, true, true, true, true, true, true, true, true, true, true] rfl rfl (by kernel_rfl) (fun _ _ _ h => h) (Or.inl ⟨by rfl, ?_⟩) ?_ ?_
            rotate_left
            · intro w'
              go_simp
              with_reducible rfl
            rotate_left
            · simp only [Act.put, List.setIfInBounds_toArray, List.set_cons_zero, List.set_cons_succ, i64_w, i32_w]
              rfl
            refine done_ (by kernel_rfl) ?_
            
            go_wp2_with fail
            go_roundw
            case rel => exact ⟨i + 1, L1, AT2, cT2, by omega, by omega, by go_num, HS, HKY1⟩
            case measure => simp [intOf]; omega
          · skip
            replace HS := Aside0.mk (HS.out.below (below_drew (Below.refl _ _)))
            have HL13 : Aside0 (w5.heap.size ≤ (w5.drew).heap.size) := ⟨hHeld.size⟩
            refine value_ (w1 := (w5.drew).alloc (.cells #[.slice none 0 0, .slice none 0 0] 39)) (v := .pointer (some ⟨(w5.drew).heap.size, 0, none⟩)) (by rfl) rfl (by first | (go_simp; done) | (go_simp; rfl)) ?_
            refine hK.out _ _ (below_alloc hHeld _) (fun hHeld => ?_)
            clear hK K
            refine norm_ (a' := ?_) ?_ ?_
            rotate_left
            · show Act.put _ (some 13) _ = _
              simp only [Act.put, List.setIfInBounds_toArray, List.set_cons_zero, List.set_cons_succ, i64_w, i32_w]
              rfl
            have BK13 := Aside0.mk (heap_alloc_new (w5.drew) (.cells #[.slice none 0 0, .slice none 0 0] 39))
            have hb_ := below_alloc (Below.refl (w5.drew).heap.size (w5.drew)) (.cells #[.slice none 0 0, .slice none 0 0] 39)
            replace HS := Aside0.mk (HS.out.below hb_)
            clear hb_
            generalize (w5.drew).alloc (.cells #[.slice none 0 0, .slice none 0 0] 39) = w6 at BK13 HS hHeld ⊢
            generalize (w5.drew).heap.size = g13 at BK13 HL13 ⊢
            refine one_ (i := 11) (N := some 77) #[true, true, true, true, true, true, true, true, true, true, true, true, false, false, false, false, true, false, false, false] rfl rfl (by kernel_rfl) (by simp) (fun K hK => ?_)
            refine goes_ Try.func14 (by kernel_rfl) rfl #[.agg #[.slice A0 n c0, .slice AT n cT], .int .i64 x, .int .i64 y] (by rfl) rfl rfl (by simp only [List.map_toArray, List.map_cons, List.map_nil]; rfl) ?_
            with_reducible refine (rsee_named A0 c0 n l L L1 AT cT x y q f wm.heap.size _ HKY.out HN.out (Kd.C_below HCI.out HS.out.bl) HCC.out HS.out.row HS.out.sz HGD.out h24 hpos HL1.out HQ.out HF.out).mono ?_
            rintro e w7 ⟨AT2, cT2, rfl, ht_, hb_⟩
            refine ⟨_, rfl, ?_⟩
            refine hK.out _ _ (below_step hHeld hb_) (fun hHeld => ?_)
            clear hK K
            refine norm_ (a' := ?_) ?_ ?_
            rotate_left
            · show Act.put _ (some 77) _ = _
              simp only [Act.put, List.setIfInBounds_toArray, List.set_cons_zero, List.set_cons_succ, i64_w, i32_w]
              rfl
            replace HS := Aside0.mk (HS.out.below hb_)
            have HT2 := Aside0.mk ht_
            replace BK13 := Aside0.mk (blk_below BK13.out hb_)
            clear ht_ hb_
            refine pure_ (i := 12) (N := some 65) (v := ?_) (a' := ?_) #[true, true, true, true, true, true, true, true, true, true, true, true, true, false, false, false, true, false, false, false] rfl rfl (by kernel_rfl) (fun _ _ _ h => h) (Or.inl ⟨by rfl, ?_⟩) ?_ ?_
            rotate_left
            · intro w'
              go_simp
              with_reducible rfl
            rotate_left
            · simp only [Act.put, List.setIfInBounds_toArray, List.set_cons_zero, List.set_cons_succ, i64_w, i32_w]
              rfl
            refine pure_ (i := 13) (N := some 78) (v := ?_) (a' := ?_) #[true, true, true, true, true, true, true, true, true, true, true, true, true, true, false, false, true, false, false, false] rfl rfl (by kernel_rfl) (fun _ _ _ h => h) (Or.inl ⟨by rfl, ?_⟩) ?_ ?_
            rotate_left
            · intro w'
              go_simp
              with_reducible rfl
            rotate_left
            · simp only [Act.put, List.setIfInBounds_toArray, List.set_cons_zero, List.set_cons_succ, i64_w, i32_w]
              rfl
            refine pure_ (i := 14) (N := some 79) (v := ?_) (a' := ?_) #[true, true, true, true, true, true, true, true, true, true, true, true, true, true, true, false, true, false, false, false] rfl rfl (by kernel_rfl) (fun _ _ _ h => h) (Or.inl ⟨by rfl, ?_⟩) ?_ ?_
            rotate_left
            · intro w'
              go_simp
              with_reducible rfl
            rotate_left
            · simp only [Act.put, List.setIfInBounds_toArray, List.set_cons_zero, List.set_cons_succ, i64_w, i32_w]
              rfl
            refine pure_ (i := 15) (N := some 80) (v := ?_) (a' := ?_) #[true, true, true, true, true, true, true, true, true, true, true, true, true, true, true, true, true, false, false, false] rfl rfl (by kernel_rfl) (fun _ _ _ h => h) (Or.inl ⟨by rfl, ?_⟩) ?_ ?_
            rotate_left
            · intro w'
              go_simp
              with_reducible rfl
            rotate_left
            · simp only [Act.put, List.setIfInBounds_toArray, List.set_cons_zero, List.set_cons_succ, i64_w, i32_w]
              rfl
            refine one_ (i := 17) (N := none) #[true, true, true, true, true, true, true, true, true, true, true, true, true, true, true, true, true, true, false, false] rfl rfl (by kernel_rfl) (by simp) (fun K hK => ?_)
            have d0_ := (blk_cell BK13.out 0).trans (rfl : _ = some (.slice none 0 0 : Value))
            have d1_ := (blk_cell BK13.out 1).trans (rfl : _ = some (.slice none 0 0 : Value))
            have k0_ := blk_frozen BK13.out 0
            have k1_ := blk_frozen BK13.out 1
            have HN13 : Aside0 (g8 ≠ g13) := ⟨by have := HG8.out; have := HL13.out; omega⟩
            have HLW : Aside0 (w.heap.size ≤ g13) := ⟨Nat.le_trans (Nat.le_trans HS.out.l8 (Nat.le_of_lt HG8.out)) HL13.out⟩
            refine skip_ (w1 := ((w7).setCell ⟨g13, 0, none⟩ (.slice A0 n c0)).setCell ⟨g13, 1, none⟩ (.slice AT2 n cT2)) (by rfl) rfl (by go_simp; done) ?_
            refine hK.out _ _ (below_set (j := 1) (v := .slice AT2 n cT2) (below_set (j := 0) (v := .slice A0 n c0) hHeld HL13.out) HL13.out) (fun hHeld => ?_)
            clear hK K
            replace HS := Aside0.mk ((HS.out.put BK13.out HN13.out HLW.out 0 (.slice A0 n c0)).put (blk_put BK13.out 0 (.slice A0 n c0) rfl) HN13.out HLW.out 1 (.slice AT2 n cT2))
            replace HT2 := Aside0.mk (Kd.R_set (Kd.R_set HT2.out BK13.out (by decide) 0 (.slice A0 n c0)) (blk_put BK13.out 0 (.slice A0 n c0) rfl) (by decide) 1 (.slice AT2 n cT2))
            replace BK13 : Aside0 ((((w7).setCell ⟨g13, 0, none⟩ (.slice A0 n c0)).setCell ⟨g13, 1, none⟩ (.slice AT2 n cT2)).heap[g13]? = some (.cells #[.slice A0 n c0, .slice AT2 n cT2] 39 (0, 0))) := ⟨blk_put (blk_put BK13.out 0 _ rfl) 1 _ rfl⟩
            clear d0_ d1_ k0_ k1_
            generalize ((w7).setCell ⟨g13, 0, none⟩ (.slice A0 n c0)).setCell ⟨g13, 1, none⟩ (.slice AT2 n cT2) = w8 at HS HT2 BK13 hHeld ⊢
            refine pure_ (i := 18) (N := some 14) (v := ?_) (a' := ?_) #[true, true, true, true, true, true, true, true, true, true, true, true, true, true, true, true, true, true, true, false] rfl rfl (by kernel_rfl) (fun _ _ _ h => h) (Or.inl ⟨by rfl, ?_⟩) ?_ ?_
            rotate_left
            · intro w'
              go_simp
              with_reducible rfl
            rotate_left
            · simp only [Act.put, List.setIfInBounds_toArray, List.set_cons_zero, List.set_cons_succ, i64_w, i32_w]
              rfl
            refine pure_ (i := 19) (N := some 15) (v := ?_) (a' := ?_) #[true, true, true, true, true, true, true, true, true, true, true, true, true, true, true, true, true, true, true, true] rfl rfl (by kernel_rfl) (fun _ _ _ h => h) (Or.inl ⟨by rfl, ?_⟩) ?_ ?_
            rotate_left
            · intro w'
              go_simp
              with_reducible rfl
            rotate_left
            · simp only [Act.put, List.setIfInBounds_toArray, List.set_cons_zero, List.set_cons_succ, i64_w, i32_w]
              rfl
            refine done_ (by kernel_rfl) ?_
            have e0_ := (blk_cell BK13.out 0).trans (rfl : _ = some (.slice A0 n c0 : Value))
            have e1_ := (blk_cell BK13.out 1).trans (rfl : _ = some (.slice AT2 n cT2 : Value))
            have d0_ := (blk_cell HS.out.b8 0).trans (rfl : _ = some (.slice A0 n c0 : Value))
            have d1_ := (blk_cell HS.out.b8 1).trans (rfl : _ = some (.slice AT n cT : Value))
            have k0_ := blk_frozen HS.out.b8 0
            have k1_ := blk_frozen HS.out.b8 1
            go_upto_region 14 with fail
            have HS9 : Aside0 (PS w wm (((w8).setCell ⟨g8, 0, none⟩ (.slice A0 n c0)).setCell ⟨g8, 1, none⟩ (.slice AT2 n cT2)) b1 m1 L1 A0 n c0 AT2 cT2 (L1.map (·.2)) g8) := ⟨HS.out.turn HT2.out⟩
            clear HS HT2 BK13 e0_ e1_ d0_ d1_ k0_ k1_
            have HS := HS9
            clear HS9
            generalize ((w8).setCell ⟨g8, 0, none⟩ (.slice A0 n c0)).setCell ⟨g8, 1, none⟩ (.slice AT2 n cT2) = w9 at HS ⊢
            refine start_ (n := 32) (S := fun w' => Below w9.heap.size w9 w') (ds := []) #[false, false, false, false, false, false, false, false, false, false, false, false, false, false, false, false, false, false, false, false, false, false, false, false, false, false, false, false, false, false, false, false] (by kernel_rfl) rfl rfl (below_drew (Below.refl _ _)) (fun hHeld => ?_)
            refine pure_ (i := 0) (N := some 82) (v := ?_) (a' := ?_) #[true, false, false, false, false, false, false, false, false, false, false, false, false, false, false, false, false, false, false, false, false, false, false, false, false, false, false, false, false, false, false, false] rfl rfl (by kernel_rfl) (fun _ _ _ h => h) (Or.inl ⟨by rfl, ?_⟩) ?_ ?_
            rotate_left
            · intro w'
              go_simp
              with_reducible rfl
            rotate_left
            · simp only [Act.put, List.setIfInBounds_toArray, List.set_cons_zero, List.set_cons_succ, i64_w, i32_w]
              rfl
            refine pure_ (i := 1) (N := some 83) (v := ?_) (a' := ?_) #[true, true, false, false, false, false, false, false, false, false, false, false, false, false, false, false, false, false, false, false, false, false, false, false, false, false, false, false, false, false, false, false] rfl rfl (by kernel_rfl) (fun _ _ _ h => h) (Or.inl ⟨by rfl, ?_⟩) ?_ ?_
            rotate_left
            · intro w'
              go_simp
              with_reducible rfl
            rotate_left
            · simp only [Act.put, List.setIfInBounds_toArray, List.set_cons_zero, List.set_cons_succ, i64_w, i32_w]
              rfl
            refine pure_ (i := 2) (N := some 84) (v := ?_) (a' := ?_) #[true, true, true, false, false, false, false, false, false, false, false, false, false, false, false, false, false, false, false, false, false, false, false, false, false, false, false, false, false, false, false, false] rfl rfl (by kernel_rfl) (fun _ _ _ h => h) (Or.inl ⟨by rfl, ?_⟩) ?_ ?_
            rotate_left
            · intro w'
              go_simp
              (try simp only [bne_self_eq_false, beq_self_eq_true])
              with_reducible rfl
            rotate_left
            · simp only [Act.put, List.setIfInBounds_toArray, List.set_cons_zero, List.set_cons_succ, i64_w, i32_w]
              rfl
            refine pure_ (i := 3) (N := some 85) (v := ?_) (a' := ?_) #[true, true, true, true, false, false, false, false, false, false, false, false, false, false, false, false, false, false, false, false, false, false, false, false, false, false, false, false, false, false, false, false] rfl rfl (by kernel_rfl) (fun _ _ _ h => h) (Or.inl ⟨by rfl, ?_⟩) ?_ ?_
            rotate_left
            · intro w'
              go_simp
              with_reducible rfl
            rotate_left
            · simp only [Act.put, List.setIfInBounds_toArray, List.set_cons_zero, List.set_cons_succ, i64_w, i32_w]
              rfl
            refine pure_ (i := 4) (N := some 86) (v := ?_) (a' := ?_) #[true, true, true, true, true, false, false, false, false, false, false, false, false, false, false, false, false, false, false, false, false, false, false, false, false, false, false, false, false, false, false, false] rfl rfl (by kernel_rfl) (fun _ _ _ h => h) (Or.inl ⟨by rfl, ?_⟩) ?_ ?_
            rotate_left
            · intro w'
              go_simp
              with_reducible rfl
            rotate_left
            · simp only [Act.put, List.setIfInBounds_toArray, List.set_cons_zero, List.set_cons_succ, i64_w, i32_w]
              rfl
            refine pure_ (i := 5) (N := some 87) (v := ?_) (a' := ?_) #[true, true, true, true, true, true, false, false, false, false, false, false, false, false, false, false, false, false, false, false, false, false, false, false, false, false, false, false, false, false, false, false] rfl rfl (by kernel_rfl) (fun _ _ _ h => h) (Or.inl ⟨by rfl, ?_⟩) ?_ ?_
            rotate_left
            · intro w'
              go_simp
              with_reducible rfl
            rotate_left
            · simp only [Act.put, List.setIfInBounds_toArray, List.set_cons_zero, List.set_cons_succ, i64_w, i32_w]
              rfl
            refine pure_ (i := 6) (N := some 88) (v := ?_) (a' := ?_) #[true, true, true, true, true, true, true, false, false, false, false, false, false, false, false, false, false, false, false, false, false, false, false, false, false, false, false, false, false, false, false, false] rfl rfl (by kernel_rfl) (fun _ _ _ h => h) (Or.inl ⟨by rfl, ?_⟩) ?_ ?_
            rotate_left
            · intro w'
              go_simp
              (try simp only [bne_self_eq_false, beq_self_eq_true])
              with_reducible rfl
            rotate_left
            · simp only [Act.put, List.setIfInBounds_toArray, List.set_cons_zero, List.set_cons_succ, i64_w, i32_w]
              rfl
            refine pure_ (i := 7) (N := some 89) (v := ?_) (a' := ?_) #[true, true, true, true, true, true, true, true, false, false, false, false, false, false, false, false, false, false, false, false, false, false, false, false, false, false, false, false, false, false, false, false] rfl rfl (by kernel_rfl) (fun _ _ _ h => h) (Or.inl ⟨by rfl, ?_⟩) ?_ ?_
            rotate_left
            · intro w'
              go_simp
              with_reducible rfl
            rotate_left
            · simp only [Act.put, List.setIfInBounds_toArray, List.set_cons_zero, List.set_cons_succ, i64_w, i32_w]
              rfl
            refine pure_ (i := 8) (N := some 90) (v := ?_) (a' := ?_) #[true, true, true, true, true, true, true, true, true, false, false, false, false, false, false, false, false, false, false, false, false, false, false, false, false, false, false, false, false, false, false, false] rfl rfl (by kernel_rfl) (fun _ _ _ h => h) (Or.inl ⟨by rfl, ?_⟩) ?_ ?_
            rotate_left
            · intro w'
              go_simp
              with_reducible rfl
            rotate_left
            · simp only [Act.put, List.setIfInBounds_toArray, List.set_cons_zero, List.set_cons_succ, i64_w, i32_w]
              rfl
            refine pure_ (i := 9) (N := some 91) (v := ?_) (a' := ?_) #[true, true, true, true, true, true, true, true, true, true, false, false, false, false, false, false, false, false, false, false, false, false, false, false, false, false, false, false, false, false, false, false] rfl rfl (by kernel_rfl) (fun _ _ _ h => h) (Or.inl ⟨by rfl, ?_⟩) ?_ ?_
            rotate_left
            · intro w'
              go_simp
              with_reducible rfl
            rotate_left
            · simp only [Act.put, List.setIfInBounds_toArray, List.set_cons_zero, List.set_cons_succ, i64_w, i32_w]
              rfl
            refine pure_ (i := 10) (N := some 92) (v := ?_) (a' := ?_) #[true, true, true, true, true, true, true, true, true, true, true, false, false, false, false, false, false, false, false, false, false, false, false, false, false, false, false, false, false, false, false, false] rfl rfl (by kernel_rfl) (fun _ _ _ h => h) (Or.inl ⟨by rfl, ?_⟩) ?_ ?_
            rotate_left
            · intro w'
              go_simp
              with_reducible rfl
            rotate_left
            · simp only [Act.put, List.setIfInBounds_toArray, List.set_cons_zero, List.set_cons_succ, i64_w, i32_w]
              rfl
            refine pure_ (i := 11) (N := some 93) (v := ?_) (a' := ?_) #[true, true, true, true, true, true, true, true, true, true, true, true, false, false, false, false, false, false, false, false, false, false, false, false, false, false, false, false, false, false, false, false] rfl rfl (by kernel_rfl) (fun _ _ _ h => h) (Or.inl ⟨by rfl, ?_⟩) ?_ ?_
            rotate_left
            · intro w'
              go_simp
              with_reducible rfl
            rotate_left
            · simp only [Act.put, List.setIfInBounds_toArray, List.set_cons_zero, List.set_cons_succ, i64_w, i32_w]
              rfl
            refine pure_ (i := 12) (N := some 94) (v := ?_) (a' := ?_) #[true, true, true, true, true, true, true, true, true, true, true, true, true, false, false, false, false, false, false, false, false, false, false, false, false, false, false, false, false, false, false, false] rfl rfl (by kernel_rfl) (fun _ _ _ h => h) (Or.inl ⟨by rfl, ?_⟩) ?_ ?_
            rotate_left
            · intro w'
              go_simp
              with_reducible rfl
            rotate_left
            · simp only [Act.put, List.setIfInBounds_toArray, List.set_cons_zero, List.set_cons_succ, i64_w, i32_w]
              rfl
            refine pure_ (i := 13) (N := some 95) (v := ?_) (a' := ?_) #[true, true, true, true, true, true, true, true, true, true, true, true, true, true, false, false, false, false, false, false, false, false, false, false, false, false, false, false, false, false, false, false] rfl rfl (by kernel_rfl) (fun _ _ _ h => h) (Or.inl ⟨by rfl, ?_⟩) ?_ ?_
            rotate_left
            · intro w'
              go_simp
              with_reducible rfl
            rotate_left
            · simp only [Act.put, List.setIfInBounds_toArray, List.set_cons_zero, List.set_cons_succ, i64_w, i32_w]
              rfl
            refine pure_ (i := 17) (N := some 99) (v := ?_) (a' := ?_) #[true, true, true, true, true, true, true, true, true, true, true, true, true, true, false, false, false, true, false, false, false, false, false, false, false, false, false, false, false, false, false, false] rfl rfl (by kernel_rfl) (fun _ _ _ h => h) (Or.inl ⟨by rfl, ?_⟩) ?_ ?_
            rotate_left
            · intro w'
              go_simp
              with_reducible rfl
            rotate_left
            · simp only [Act.put, List.setIfInBounds_toArray, List.set_cons_zero, List.set_cons_succ, i64_w, i32_w]
              rfl
            refine pure_ (i := 18) (N := some 100) (v := ?_) (a' := ?_) #[true, true, true, true, true, true, true, true, true, true, true, true, true, true, false, false, false, true, true, false, false, false, false, false, false, false, false, false, false, false, false, false] rfl rfl (by kernel_rfl) (fun _ _ _ h => h) (Or.inl ⟨by rfl, ?_⟩) ?_ ?_
            rotate_left
            · intro w'
              go_simp
              with_reducible rfl
            rotate_left
            · simp only [Act.put, List.setIfInBounds_toArray, List.set_cons_zero, List.set_cons_succ, i64_w, i32_w]
              rfl
            refine pure_ (i := 19) (N := some 101) (v := ?_) (a' := ?_) #[true, true, true, true, true, true, true, true, true, true, true, true, true, true, false, false, false, true, true, true, false, false, false, false, false, false, false, false, false, false, false, false] rfl rfl (by kernel_rfl) (fun _ _ _ h => h) (Or.inl ⟨by rfl, ?_⟩) ?_ ?_
            rotate_left
            · intro w'
              go_simp
              with_reducible rfl
            rotate_left
            · simp only [Act.put, List.setIfInBounds_toArray, List.set_cons_zero, List.set_cons_succ, i64_w, i32_w]
              rfl
            refine pure_ (i := 20) (N := some 102) (v := ?_) (a' := ?_) #[true, true, true, true, true, true, true, true, true, true, true, true, true, true, false, false, false, true, true, true, true, false, false, false, false, false, false, false, false, false, false, false] rfl rfl (by kernel_rfl) (fun _ _ _ h => h) (Or.inl ⟨by rfl, ?_⟩) ?_ ?_
            rotate_left
            · intro w'
              go_simp
              with_reducible rfl
            rotate_left
            · simp only [Act.put, List.setIfInBounds_toArray, List.set_cons_zero, List.set_cons_succ, i64_w, i32_w]
              rfl
            refine take_ (i := 14) (N := some 96) (v := ?_) (a' := ?_) #[true, true, true, true, true, true, true, true, true, true, true, true, true, true, true, false, false, true, true, true, true, false, false, false, false, false, false, false, false, false, false, false] rfl rfl (by kernel_rfl) (fun _ _ _ h => h) (Or.inl ⟨by rfl, ?_⟩) hHeld ?_ ?_
            rotate_left
            · intro w' hS
              have c_ := (HCX.out _ (below_step HS.out.bl hS)).1
              go_simp
              with_reducible rfl
            rotate_left
            · simp only [Act.put, List.setIfInBounds_toArray, List.set_cons_zero, List.set_cons_succ, i64_w, i32_w]
              rfl
            refine take_ (i := 16) (N := some 98) (v := ?_) (a' := ?_) #[true, true, true, true, true, true, true, true, true, true, true, true, true, true, true, false, true, true, true, true, true, false, false, false, false, false, false, false, false, false, false, false] rfl rfl (by kernel_rfl) (fun _ _ _ h => h) (Or.inl ⟨by rfl, ?_⟩) hHeld ?_ ?_
            rotate_left
            · intro w' hS
              have c0_ := cell_below hS ((blk_cell HS.out.b8 0).trans (rfl : _ = some (.slice A0 n c0 : Value)))
              have c1_ := cell_below hS ((blk_cell HS.out.b8 1).trans (rfl : _ = some (.slice AT2 n cT2 : Value)))
              go_simp
              with_reducible rfl
            rotate_left
            · simp only [Act.put, List.setIfInBounds_toArray, List.set_cons_zero, List.set_cons_succ, i64_w, i32_w]
              rfl
            refine take_ (i := 21) (N := some 103) (v := ?_) (a' := ?_) #[true, true, true, true, true, true, true, true, true, true, true, true, true, true, true, false, true, true, true, true, true, true, false, false, false, false, false, false, false, false, false, false] rfl rfl (by kernel_rfl) (fun _ _ _ h => h) (Or.inl ⟨by rfl, ?_⟩) hHeld ?_ ?_
            rotate_left
            · intro w' hS
              have c_ := (HCX.out _ (below_step HS.out.bl hS)).1
              go_simp
              with_reducible rfl
            rotate_left
            · simp only [Act.put, List.setIfInBounds_toArray, List.set_cons_zero, List.set_cons_succ, i64_w, i32_w]
              rfl
            refine one_ (i := 15) (N := some 97) #[true, true, true, true, true, true, true, true, true, true, true, true, true, true, true, true, true, true, true, true, true, true, false, false, false, false, false, false, false, false, false, false] rfl rfl (by kernel_rfl) (by simp) (fun K hK => ?_)
            refine goes_ Try.func11 (by kernel_rfl) rfl #[.pointer (some ⟨b1, 0, none⟩), .int .i64 x] (by rfl) rfl rfl (by simp only [List.map_toArray, List.map_cons, List.map_nil]; rfl) ?_
            with_reducible refine (seen_b b1 m1 _ L1 x s1 _ (HS.out.below (below_drew (Below.refl _ _))).mks HI1.out.1 HS1.out).mono ?_
            rintro e w10 ⟨rfl, hb_⟩
            refine ⟨_, rfl, ?_⟩
            replace hb_ := below_step hHeld hb_
            refine hK.out _ _ hb_ (fun _ => ?_)
            clear hK K hHeld
            refine norm_ (a' := ?_) ?_ ?_
            rotate_left
            · show Act.put _ (some 97) _ = _
              simp only [Act.put, List.setIfInBounds_toArray, List.set_cons_zero, List.set_cons_succ, i64_w, i32_w]
              rfl
            refine stronger_ (S' := fun w' => Below w10.heap.size w10 w') (fun w' h => below_step hb_ h) (Below.refl _ _) ?_
            have hHeld := Below.refl w10.heap.size w10
            replace HS := Aside0.mk (HS.out.below hb_)
            clear hb_
            refine one_ (i := 22) (N := some 104) #[true, true, true, true, true, true, true, true, true, true, true, true, true, true, true, true, true, true, true, true, true, true, true, false, false, false, false, false, false, false, false, false] rfl rfl (by kernel_rfl) (by simp) (fun K hK => ?_)
            refine goes_ Try.func15 (by kernel_rfl) rfl #[.agg #[.slice A0 n c0, .slice AT2 n cT2], .int .i64 x] (by rfl) rfl rfl (by simp only [List.map_toArray, List.map_cons, List.map_nil]; rfl) ?_
            with_reducible refine (rseen A0 c0 n l L1 AT2 cT2 x s1 wm.heap.size _ HKY1.out HN.out (Kd.C_below HCI.out HS.out.bl) HCC.out HS.out.row HGD1.out h24 HS1.out).mono ?_
            rintro e w11 ⟨rfl, hb_⟩
            refine ⟨_, rfl, ?_⟩
            replace hb_ := below_step hHeld hb_
            refine hK.out _ _ hb_ (fun _ => ?_)
            clear hK K hHeld
            refine norm_ (a' := ?_) ?_ ?_
            rotate_left
            · show Act.put _ (some 104) _ = _
              simp only [Act.put, List.setIfInBounds_toArray, List.set_cons_zero, List.set_cons_succ, i64_w, i32_w]
              rfl
            refine stronger_ (S' := fun w' => Below w11.heap.size w11 w') (fun w' h => below_step hb_ h) (Below.refl _ _) ?_
            have hHeld := Below.refl w11.heap.size w11
            replace HS := Aside0.mk (HS.out.below hb_)
            clear hb_
            refine pure_ (i := 23) (N := some 105) (v := ?_) (a' := ?_) #[true, true, true, true, true, true, true, true, true, true, true, true, true, true, true, true, true, true, true, true, true, true, true, true, false, false, false, false, false, false, false, false] rfl rfl (by kernel_rfl) (fun _ _ _ h => h) (Or.inl ⟨by rfl, ?_⟩) ?_ ?_
            rotate_left
            · intro w'
              go_simp
              (try simp only [bne_self_eq_false, beq_self_eq_true])
              with_reducible rfl
            rotate_left
            · simp only [Act.put, List.setIfInBounds_toArray, List.set_cons_zero, List.set_cons_succ, i64_w, i32_w]
              rfl
            refine pure_ (i := 24) (N := some 106) (v := ?_) (a' := ?_) #[true, true, true, true, true, true, true, true, true, true, true, true, true, true, true, true, true, true, true, true, true, true, true, true, true, false, false, false, false, false, false, false] rfl rfl (by kernel_rfl) (fun _ _ _ h => h) (Or.inl ⟨by rfl, ?_⟩) ?_ ?_
            rotate_left
            · intro w'
              go_simp
              with_reducible rfl
            rotate_left
            · simp only [Act.put, List.setIfInBounds_toArray, List.set_cons_zero, List.set_cons_succ, i64_w, i32_w]
              rfl
            refine pure_ (i := 25) (N := some 107) (v := ?_) (a' := ?_) #[true, true, true, true, true, true, true, true, true, true, true, true, true, true, true, true, true, true, true, true, true, true, true, true, true, true, false, false, false, false, false, false] rfl rfl (by kernel_rfl) (fun _ _ _ h => h) (Or.inl ⟨by rfl, ?_⟩) ?_ ?_
            rotate_left
            · intro w'
              go_simp
              with_reducible rfl
            rotate_left
            · simp only [Act.put, List.setIfInBounds_toArray, List.set_cons_zero, List.set_cons_succ, i64_w, i32_w]
              rfl
            refine pure_ (i := 26) (N := some 108) (v := ?_) (a' := ?_) #[true, true, true, true, true, true, true, true, true, true, true, true, true, true, true, true, true, true, true, true, true, true, true, true, true, true, true, false, false, false, false, false] rfl rfl (by kernel_rfl) (fun _ _ _ h => h) (Or.inl ⟨by rfl, ?_⟩) ?_ ?_
            rotate_left
            · intro w'
              go_simp
              with_reducible rfl
            rotate_left
            · simp only [Act.put, List.setIfInBounds_toArray, List.set_cons_zero, List.set_cons_succ, i64_w, i32_w]
              rfl
            refine take_ (i := 28) (N := some 110) (v := ?_) (a' := ?_) #[true, true, true, true, true, true, true, true, true, true, true, true, true, true, true, true, true, true, true, true, true, true, true, true, true, true, true, false, true, false, false, false] rfl rfl (by kernel_rfl) (fun _ _ _ h => h) (Or.inl ⟨by rfl, ?_⟩) hHeld ?_ ?_
            rotate_left
            · intro w' hS
              have c0_ := cell_below hS ((blk_cell HS.out.b8 0).trans (rfl : _ = some (.slice A0 n c0 : Value)))
              have c1_ := cell_below hS ((blk_cell HS.out.b8 1).trans (rfl : _ = some (.slice AT2 n cT2 : Value)))
              go_simp
              with_reducible rfl
            rotate_left
            · simp only [Act.put, List.setIfInBounds_toArray, List.set_cons_zero, List.set_cons_succ, i64_w, i32_w]
              rfl
            refine one_ (i := 27) (N := some 109) #[true, true, true, true, true, true, true, true, true, true, true, true, true, true, true, true, true, true, true, true, true, true, true, true, true, true, true, true, true, false, false, false] rfl rfl (by kernel_rfl) (by simp) (fun K hK => ?_)
            refine goes_ Try.func10 (by kernel_rfl) rfl #[.pointer (some ⟨b1, 0, none⟩)] (by rfl) rfl rfl (by simp only [List.map_toArray, List.map_cons, List.map_nil]; rfl) ?_
            with_reducible refine (mark_b b1 m1 _ L1 n1 _ HS.out.mks HM1.out).mono ?_
            rintro e w12 ⟨rfl, hb_⟩
            refine ⟨_, rfl, ?_⟩
            replace hb_ := below_step hHeld hb_
            refine hK.out _ _ hb_ (fun _ => ?_)
            clear hK K hHeld
            refine norm_ (a' := ?_) ?_ ?_
            rotate_left
            · show Act.put _ (some 109) _ = _
              simp only [Act.put, List.setIfInBounds_toArray, List.set_cons_zero, List.set_cons_succ, i64_w, i32_w]
              rfl
            refine stronger_ (S' := fun w' => Below w12.heap.size w12 w') (fun w' h => below_step hb_ h) (Below.refl _ _) ?_
            have hHeld := Below.refl w12.heap.size w12
            replace HS := Aside0.mk (HS.out.below hb_)
            clear hb_
            refine one_ (i := 29) (N := some 111) #[true, true, true, true, true, true, true, true, true, true, true, true, true, true, true, true, true, true, true, true, true, true, true, true, true, true, true, true, true, true, false, false] rfl rfl (by kernel_rfl) (by simp) (fun K hK => ?_)
            refine goes_ Try.func16 (by kernel_rfl) rfl #[.agg #[.slice A0 n c0, .slice AT2 n cT2]] (by rfl) rfl rfl (by simp only [List.map_toArray, List.map_cons, List.map_nil]; rfl) ?_
            with_reducible refine (rmark A0 c0 n l L1 AT2 cT2 n1 wm.heap.size _ HKY1.out HN.out (Kd.C_below HCI.out HS.out.bl) HCC.out HS.out.row HGD1.out h24 hpos HM1.out).mono ?_
            rintro e w13 ⟨rfl, hb_⟩
            refine ⟨_, rfl, ?_⟩
            replace hb_ := below_step hHeld hb_
            refine hK.out _ _ hb_ (fun _ => ?_)
            clear hK K hHeld
            refine norm_ (a' := ?_) ?_ ?_
            rotate_left
            · show Act.put _ (some 111) _ = _
              simp only [Act.put, List.setIfInBounds_toArray, List.set_cons_zero, List.set_cons_succ, i64_w, i32_w]
              rfl
            refine stronger_ (S' := fun w' => Below w13.heap.size w13 w') (fun w' h => below_step hb_ h) (Below.refl _ _) ?_
            have hHeld := Below.refl w13.heap.size w13
            replace HS := Aside0.mk (HS.out.below hb_)
            clear hb_
            refine pure_ (i := 30) (N := some 112) (v := ?_) (a' := ?_) #[true, true, true, true, true, true, true, true, true, true, true, true, true, true, true, true, true, true, true, true, true, true, true, true, true, true, true, true, true, true, true, false] rfl rfl (by kernel_rfl) (fun _ _ _ h => h) (Or.inl ⟨by rfl, ?_⟩) ?_ ?_
            rotate_left
            · intro w'
              go_simp
              (try simp only [bne_self_eq_false, beq_self_eq_true])
              with_reducible rfl
            rotate_left
            · simp only [Act.put, List.setIfInBounds_toArray, List.set_cons_zero, List.set_cons_succ, i64_w, i32_w]
              rfl
            refine pure_ (i := 31) (N := some 113) (v := ?_) (a' := ?_) #[true, true, true, true, true, true, true, true, true, true, true, true, true, true, true, true, true, true, true, true, true, true, true, true, true, true, true, true, true, true, true, true] rfl rfl (by kernel_rfl) (fun _ _ _ h => h) (Or.inl ⟨by rfl, ?_⟩) ?_ ?_
            rotate_left
            · intro w'
              go_simp
              with_reducible rfl
            rotate_left
            · simp only [Act.put, List.setIfInBounds_toArray, List.set_cons_zero, List.set_cons_succ, i64_w, i32_w]
              rfl
            refine done_ (by kernel_rfl) ?_
            
            go_wp2_with fail
            go_roundw
            case rel => exact ⟨i + 1, L1, AT2, cT2, by omega, by omega, by go_num, HS, HKY1⟩
            case measure => simp [intOf]; omega
        · have h2 : decide ((i : Int) < 200) = false := by simp; omega
          have h2b : decide (i < 200) = false := by simp; omega
          go_wp2_with fail
          refine (inputs_any b1 m1 _ L _ HS.out.mks (by intro h; have h2 := HKY.out; rw [h] at h2; rw [← HN.out, ← h2] at hpos; simp at hpos)).mono ?_
          rintro e w6 ⟨A6, c6, rfl, hc6, hC6, hb_⟩
          replace HS := Aside0.mk (HS.out.below hb_)
          clear hb_
          go_wp2_with fail
          refine (rsame A6 c6 A0 c0 n l L _ HKY.out HN.out h24 hc6 hC6 (Kd.C_below HCI.out HS.out.bl) HCC.out).mono ?_
          rintro e w7 ⟨rfl, hb_⟩
          replace HS := Aside0.mk (HS.out.below hb_)
          clear hb_
          go_wp2
          go_ret
          exact ⟨rfl, HS.out.bl⟩
      · have h1 : decide ((i : Int) < (l1.length : Int)) = false := by simp; omega
        have h1b : decide (i < l1.length) = false := by simp; omega
        go_wp2_with fail
        refine (inputs_any b1 m1 _ L _ HS.out.mks (by intro h; have h2 := HKY.out; rw [h] at h2; rw [← HN.out, ← h2] at hpos; simp at hpos)).mono ?_
        rintro e w6 ⟨A6, c6, rfl, hc6, hC6, hb_⟩
        replace HS := Aside0.mk (HS.out.below hb_)
        clear hb_
        go_wp2_with fail
        refine (rsame A6 c6 A0 c0 n l L _ HKY.out HN.out h24 hc6 hC6 (Kd.C_below HCI.out HS.out.bl) HCC.out).mono ?_
        rintro e w7 ⟨rfl, hb_⟩
        replace HS := Aside0.mk (HS.out.below hb_)
        clear hb_
        go_wp2
        go_ret
        exact ⟨rfl, HS.out.bl⟩
  · obtain rfl := hno hok
    clear hyes hno hb_
    go_wp2_with fail
    refine (rnew A0 c0 n l _ HN.out (Kd.C_below HCI.out HB.out) HCC.out hN0).mono ?_
    rintro e w3 ⟨hb_, _, hno⟩
    obtain rfl := hno hok
    replace HB := Aside0.mk (below_step HB.out hb_)
    clear hb_ hno hok
    go_wp2
    go_ret
    exact ⟨rfl, below_alloc HB.out _⟩
end Go.Proofs.Ytegfglmnlfkolaa.Mk
