/- rec.ToRecord, in the form of the printer's own contracts. -/
import Derived.Test.YtedbgkbjbfdnlaaRcRec
namespace Go.Proofs.Ytedbgkbjbfdnlaa.Rc
open Go Go.RowKit Go.Proofs.YtedbgkbjbfdnlaaW.PrintWords Go.Proofs.YtedbgkbjbfdnlaaW.PrintLast Go.Proofs.YtedbgkbjbfdnlaaW.PrintMore Go.Proofs.Ytedbgkbjbfdnlaa.Pk
set_option linter.unusedVariables false
set_option linter.unusedSimpArgs false
def toRec (xs : List Int) : Int × Int × Int × Int :=
  if (rec3 xs).2.1 ≠ 0 then (0, 0, 0, (rec3 xs).2.1)
  else if timeOk (rec3 xs).1.2.2 = false then (0, 0, 0, 2)
  else if (rec3 xs).2.2.length ≠ 0 then (0, 0, 0, 5)
  else ((rec3 xs).1.1, (rec3 xs).1.2.1, (rec3 xs).1.2.2, 0)
def bytesB (l : List Int) : Bool := l.all (fun x => decide (0 ≤ x) && decide (x < 256)) && decide (l.length < 140737488355328)
theorem bytesB_iff {l : List Int} : bytesB l = true ↔ Byt l ∧ l.length < 140737488355328 := by
  unfold bytesB Byt
  simp [List.all_eq_true]
set_option maxHeartbeats 4000000 in
set_option maxRecDepth 100000 in
theorem toRec_ok (A0 : Option Addr) (c0 : Nat) (l0 : List Int) (w : World) (hr0 : Kd.C (Kd.int .u8) w A0 l0.length l0) (hl : l0.length < 140737488355328) (hby : Byt l0) :
    Calls Try.prog 13 #[.slice A0 l0.length c0] w fun e w' => e = .returned (.tuple #[.agg #[.int .i64 (toRec l0).1, .int .i64 (toRec l0).2.1, .int .i64 (toRec l0).2.2.1], .int .i64 (toRec l0).2.2.2]) ∧ Below w.heap.size w w' := by
  have HC0 := Aside0.mk hr0
  have HL0 := Aside0.mk hl
  have HBY := Aside0.mk hby
  clear hr0 hl hby
  have hb0 := Below.refl w.heap.size w
  obtain ⟨q, HQ⟩ : ∃ q, Aside0 (rec3 l0 = q) := ⟨_, ⟨rfl⟩⟩
  obtain ⟨t, HT⟩ : ∃ q, Aside0 (toRec l0 = q) := ⟨_, ⟨rfl⟩⟩
  have HT2 : Aside0 ((if q.2.1 ≠ 0 then (0, 0, 0, q.2.1) else if timeOk q.1.2.2 = false then (0, 0, 0, 2) else if q.2.2.length ≠ 0 then (0, 0, 0, 5) else (q.1.1, q.1.2.1, q.1.2.2, 0)) = t) := ⟨by rw [← HT.out, ← HQ.out]; rfl⟩
  rw [HT.out]
  obtain ⟨n0, HN0⟩ : ∃ n0, Aside0 (l0.length = n0) := ⟨_, ⟨rfl⟩⟩
  rw [HN0.out]
  go_enter Try.func13, Try.ntmps13
  go_upto_region 1 with fail
  have BK2 := Aside0.mk (heap_alloc_new w (.cells #[.int .i64 0, .int .i64 0, .int .i64 0] 23))
  have hb_ := below_alloc (Below.refl w.heap.size w) (.cells #[.int .i64 0, .int .i64 0, .int .i64 0] 23)
  have HB := Aside0.mk hb_
  generalize w.alloc (.cells #[.int .i64 0, .int .i64 0, .int .i64 0] 23) = w0 at BK2 hb_ HB ⊢
  replace HC0 := Aside0.mk (Kd.C_below HC0.out hb_)
  obtain ⟨g2, HG2⟩ : ∃ g2, Aside0 (w.heap.size = g2) := ⟨_, ⟨rfl⟩⟩
  have HL2 : Aside0 (w.heap.size ≤ g2) := ⟨by rw [HG2.out]; omega⟩
  replace BK2 : Aside0 (w0.heap[g2]? = some (.cells #[.int .i64 0, .int .i64 0, .int .i64 0] 23 (0, 0))) := ⟨by rw [← HG2.out]; exact BK2.out⟩
  have HS0 := Aside0.mk (Array.getElem?_eq_some_iff.1 BK2.out).1
  clear hb_
  go_wp2_with fail
  rw [HG2.out]
  rw [← HN0.out]
  refine (from_any A0 c0 l0 _ HC0.out HL0.out HBY.out).mono ?_
  rintro e w1 ⟨b, rfl, hR, hb_⟩
  rw [HN0.out]
  have HR := Aside0.mk hR
  clear hR
  replace BK2 := Aside0.mk (blk_below BK2.out hb_)
  replace HB := Aside0.mk (below_step HB.out hb_)
  have HNB : Aside0 (g2 ≠ b) := ⟨by have := HR.out.1; have := HS0.out; omega⟩
  clear hb_
  go_wp2_with fail
  refine (record_ok b l0 _ _ HR.out).mono ?_
  rintro e w2 ⟨he_, hR, hg_⟩
  rw [HQ.out] at he_ hR
  subst he_
  replace BK2 := Aside0.mk (blk_grown BK2.out hg_ (by have := HNB.out; simpa using this))
  replace HB := Aside0.mk ((HR.out.lower (Nat.le_of_lt (by have := HL2.out; have := HS0.out; omega : w.heap.size < w0.heap.size))).from HB.out HB.out.size hg_)
  obtain ⟨⟨x, y, z⟩, e_, rest⟩ := q
  have HRR := Aside0.mk hR
  clear hR hg_ HR
  simp only at HRR HT2 ⊢
  go_upto_region 3 with fail
  have BK5 := Aside0.mk (heap_alloc_new w2 (.cells #[.int .i64 x, .int .i64 y, .int .i64 z] 23))
  have hb_ := below_alloc (Below.refl w2.heap.size w2) (.cells #[.int .i64 x, .int .i64 y, .int .i64 z] 23)
  have HRB : Aside0 (e_ = 0 → Rdr (w2.alloc (.cells #[.int .i64 x, .int .i64 y, .int .i64 z] 23)) w0.heap.size b rest) := ⟨fun h => (HRR.out h).below hb_⟩
  clear HRR
  generalize w2.alloc (.cells #[.int .i64 x, .int .i64 y, .int .i64 z] 23) = w3 at BK5 hb_ HRB ⊢
  replace BK2 := Aside0.mk (blk_below BK2.out hb_)
  replace HB := Aside0.mk (below_step HB.out hb_)
  generalize w2.heap.size = g5 at BK5 ⊢
  clear hb_
  by_cases he : e_ = 0
  · subst he
    have HR := Aside0.mk (HRB.out rfl)
    have c2_ : w3.cell? ⟨g5, 2, none⟩ = some (.int .i64 z) := (blk_cell BK5.out 2).trans rfl
    go_wp2_with fail
    refine (time_ok z _).mono ?_
    rintro e w4 ⟨he_, hb_⟩
    obtain ⟨tb, HTB⟩ : ∃ tb, Aside0 (timeOk z = tb) := ⟨_, ⟨rfl⟩⟩
    rw [HTB.out] at he_ HT2
    subst he_
    clear c2_
    replace BK2 := Aside0.mk (blk_below BK2.out hb_)
    replace BK5 := Aside0.mk (blk_below BK5.out hb_)
    replace HB := Aside0.mk (below_step HB.out hb_)
    replace HR := Aside0.mk (HR.out.below hb_)
    clear hb_ HRB
    cases tb with
    | false =>
      obtain rfl : (0, 0, 0, 2) = t := HT2.out
      have d0_ := (blk_cell BK2.out 0).trans (rfl : _ = some (.int .i64 0 : Value))
      have d1_ := (blk_cell BK2.out 1).trans (rfl : _ = some (.int .i64 0 : Value))
      have d2_ := (blk_cell BK2.out 2).trans (rfl : _ = some (.int .i64 0 : Value))
      have k0_ := blk_frozen BK2.out 0
      have k1_ := blk_frozen BK2.out 1
      have k2_ := blk_frozen BK2.out 2
      go_wp2
      have B_ := blk_put (blk_put (blk_put BK2.out 0 (.int .i64 0) rfl) 1 (.int .i64 0) rfl) 2 (.int .i64 0) rfl
      have G_ := below_set (j := 2) (v := .int .i64 0) (below_set (j := 1) (v := .int .i64 0) (below_set (j := 0) (v := .int .i64 0) HB.out HL2.out) HL2.out) HL2.out
      generalize (((w4.setCell ⟨g2, 0, none⟩ (.int .i64 0)).setCell ⟨g2, 1, none⟩ (.int .i64 0)).setCell ⟨g2, 2, none⟩ (.int .i64 0)) = w99 at B_ G_ ⊢
      have p0_ : w99.cell? ⟨g2, 0, none⟩ = some (.int .i64 0) := (blk_cell B_ 0).trans rfl
      have p1_ : w99.cell? ⟨g2, 1, none⟩ = some (.int .i64 0) := (blk_cell B_ 1).trans rfl
      have p2_ : w99.cell? ⟨g2, 2, none⟩ = some (.int .i64 0) := (blk_cell B_ 2).trans rfl
      refine bodyPost_ret (v := .tuple #[.agg #[.int .i64 0, .int .i64 0, .int .i64 0], .int .i64 2]) (by simp [results, Try.results13, go_sem, p0_, p1_, p2_]) rfl ?_
      exact ⟨rfl, G_⟩
    | true =>
      go_wp2_with fail
      refine (left_some b rest _ _ HR.out).mono ?_
      rintro e w5 ⟨rfl, rfl⟩
      obtain ⟨m, HM⟩ : ∃ m, Aside0 (rest.length = m) := ⟨_, ⟨rfl⟩⟩
      rw [HM.out] at HT2 ⊢
      by_cases hm : m = 0
      · subst hm
        obtain rfl : (x, y, z, 0) = t := HT2.out
        have c0_ : w4.cell? ⟨g5, 0, none⟩ = some (.int .i64 x) := (blk_cell BK5.out 0).trans rfl
        have c1_ : w4.cell? ⟨g5, 1, none⟩ = some (.int .i64 y) := (blk_cell BK5.out 1).trans rfl
        have c2_ : w4.cell? ⟨g5, 2, none⟩ = some (.int .i64 z) := (blk_cell BK5.out 2).trans rfl
        have d0_ := (blk_cell BK2.out 0).trans (rfl : _ = some (.int .i64 0 : Value))
        have d1_ := (blk_cell BK2.out 1).trans (rfl : _ = some (.int .i64 0 : Value))
        have d2_ := (blk_cell BK2.out 2).trans (rfl : _ = some (.int .i64 0 : Value))
        have k0_ := blk_frozen BK2.out 0
        have k1_ := blk_frozen BK2.out 1
        have k2_ := blk_frozen BK2.out 2
        go_wp2
        have B_ := blk_put (blk_put (blk_put BK2.out 0 (.int .i64 x) rfl) 1 (.int .i64 y) rfl) 2 (.int .i64 z) rfl
        have G_ := below_set (j := 2) (v := .int .i64 z) (below_set (j := 1) (v := .int .i64 y) (below_set (j := 0) (v := .int .i64 x) HB.out HL2.out) HL2.out) HL2.out
        generalize (((w4.setCell ⟨g2, 0, none⟩ (.int .i64 x)).setCell ⟨g2, 1, none⟩ (.int .i64 y)).setCell ⟨g2, 2, none⟩ (.int .i64 z)) = w99 at B_ G_ ⊢
        have p0_ : w99.cell? ⟨g2, 0, none⟩ = some (.int .i64 x) := (blk_cell B_ 0).trans rfl
        have p1_ : w99.cell? ⟨g2, 1, none⟩ = some (.int .i64 y) := (blk_cell B_ 1).trans rfl
        have p2_ : w99.cell? ⟨g2, 2, none⟩ = some (.int .i64 z) := (blk_cell B_ 2).trans rfl
        refine bodyPost_ret (v := .tuple #[.agg #[.int .i64 x, .int .i64 y, .int .i64 z], .int .i64 0]) (by simp [results, Try.results13, go_sem, p0_, p1_, p2_]) rfl ?_
        exact ⟨rfl, G_⟩
      · have hz : ((m : Int) != 0) = true := by simp; omega
        obtain rfl : (0, 0, 0, 5) = t := by have h := HT2.out; rw [if_neg (by simp), if_neg (by simp), if_pos hm] at h; exact h
        have d0_ := (blk_cell BK2.out 0).trans (rfl : _ = some (.int .i64 0 : Value))
        have d1_ := (blk_cell BK2.out 1).trans (rfl : _ = some (.int .i64 0 : Value))
        have d2_ := (blk_cell BK2.out 2).trans (rfl : _ = some (.int .i64 0 : Value))
        have k0_ := blk_frozen BK2.out 0
        have k1_ := blk_frozen BK2.out 1
        have k2_ := blk_frozen BK2.out 2
        go_wp2
        have B_ := blk_put (blk_put (blk_put BK2.out 0 (.int .i64 0) rfl) 1 (.int .i64 0) rfl) 2 (.int .i64 0) rfl
        have G_ := below_set (j := 2) (v := .int .i64 0) (below_set (j := 1) (v := .int .i64 0) (below_set (j := 0) (v := .int .i64 0) HB.out HL2.out) HL2.out) HL2.out
        generalize (((w4.setCell ⟨g2, 0, none⟩ (.int .i64 0)).setCell ⟨g2, 1, none⟩ (.int .i64 0)).setCell ⟨g2, 2, none⟩ (.int .i64 0)) = w99 at B_ G_ ⊢
        have p0_ : w99.cell? ⟨g2, 0, none⟩ = some (.int .i64 0) := (blk_cell B_ 0).trans rfl
        have p1_ : w99.cell? ⟨g2, 1, none⟩ = some (.int .i64 0) := (blk_cell B_ 1).trans rfl
        have p2_ : w99.cell? ⟨g2, 2, none⟩ = some (.int .i64 0) := (blk_cell B_ 2).trans rfl
        refine bodyPost_ret (v := .tuple #[.agg #[.int .i64 0, .int .i64 0, .int .i64 0], .int .i64 5]) (by simp [results, Try.results13, go_sem, p0_, p1_, p2_]) rfl ?_
        exact ⟨rfl, G_⟩
  · have hz : (e_ != 0) = true := by simpa using he
    obtain rfl : (0, 0, 0, e_) = t := by have h := HT2.out; rw [if_pos he] at h; exact h
    have d0_ := (blk_cell BK2.out 0).trans (rfl : _ = some (.int .i64 0 : Value))
    have d1_ := (blk_cell BK2.out 1).trans (rfl : _ = some (.int .i64 0 : Value))
    have d2_ := (blk_cell BK2.out 2).trans (rfl : _ = some (.int .i64 0 : Value))
    have k0_ := blk_frozen BK2.out 0
    have k1_ := blk_frozen BK2.out 1
    have k2_ := blk_frozen BK2.out 2
    go_wp2
    have B_ := blk_put (blk_put (blk_put BK2.out 0 (.int .i64 0) rfl) 1 (.int .i64 0) rfl) 2 (.int .i64 0) rfl
    have G_ := below_set (j := 2) (v := .int .i64 0) (below_set (j := 1) (v := .int .i64 0) (below_set (j := 0) (v := .int .i64 0) HB.out HL2.out) HL2.out) HL2.out
    generalize (((w3.setCell ⟨g2, 0, none⟩ (.int .i64 0)).setCell ⟨g2, 1, none⟩ (.int .i64 0)).setCell ⟨g2, 2, none⟩ (.int .i64 0)) = w99 at B_ G_ ⊢
    have p0_ : w99.cell? ⟨g2, 0, none⟩ = some (.int .i64 0) := (blk_cell B_ 0).trans rfl
    have p1_ : w99.cell? ⟨g2, 1, none⟩ = some (.int .i64 0) := (blk_cell B_ 1).trans rfl
    have p2_ : w99.cell? ⟨g2, 2, none⟩ = some (.int .i64 0) := (blk_cell B_ 2).trans rfl
    refine bodyPost_ret (v := .tuple #[.agg #[.int .i64 0, .int .i64 0, .int .i64 0], .int .i64 e_]) (by simp [results, Try.results13, go_sem, p0_, p1_, p2_]) rfl ?_
    exact ⟨rfl, G_⟩
end Go.Proofs.Ytedbgkbjbfdnlaa.Rc
namespace Go.Proofs.Ytedbgkbjbfdnlaa.Rp
open Go Go.RowKit Go.Proofs.YtedbgkbjbfdnlaaW.PrintWords Go.Proofs.YtedbgkbjbfdnlaaW.PrintLast Go.Proofs.YtedbgkbjbfdnlaaW.PrintMore
set_option linter.unusedVariables false
set_option linter.unusedSimpArgs false
def rec_ToRecord.f (l0 : List Int) : Option (Int × Int × Int × Int) := if Rc.bytesB l0 = true then some (Rc.toRec l0) else none
theorem rec_ToRecord.calls (A0 : Option Addr) (c0 : Nat) (l0 : List Int) (r1 r2 r3 r4 : Int) (w : World) (hr0 : Kd.C (Kd.int .u8) w A0 l0.length l0) (hc0 : l0.length ≤ c0) (h : rec_ToRecord.f l0 = some (r1, r2, r3, r4)) :
    Calls Try.prog 13 #[.slice A0 l0.length c0] w fun e w' => e = .returned (.tuple #[.agg #[.int .i64 r1, .int .i64 r2, .int .i64 r3], .int .i64 r4]) ∧ Below w.heap.size w w' := by
  unfold rec_ToRecord.f at h
  by_cases hB : Rc.bytesB l0 = true
  · rw [if_pos hB] at h
    injection h with h
    have := Rc.toRec_ok A0 c0 l0 w hr0 (Rc.bytesB_iff.1 hB).2 (Rc.bytesB_iff.1 hB).1
    rw [h] at this
    exact this
  · rw [if_neg hB] at h
    cases h
end Go.Proofs.Ytedbgkbjbfdnlaa.Rp
