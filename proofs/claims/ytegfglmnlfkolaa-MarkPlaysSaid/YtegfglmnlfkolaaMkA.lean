/- Contracts of mark's functions. -/
import Derived.Test.YtegfglmnlfkolaaWMore
import Derived.Test.YtegfglmnlfkolaaWLast
import Derived.Test.YtegfglmnlfkolaaMkPure
import Derived.WalkMore
import Derived.WalkKit
import Derived.Test.YtegfglmnlfkolaaProg
namespace Go.Proofs.Ytegfglmnlfkolaa.Mk
open Go Go.RowKit Go.Maps Go.Proofs.YtegfglmnlfkolaaW.PrintWords Go.Proofs.YtegfglmnlfkolaaW.PrintLast Go.Proofs.YtegfglmnlfkolaaW.PrintMore
set_option linter.unusedVariables false
set_option linter.unusedSimpArgs false
theorem K3 : Keyed Try.prog 3 := int_keyed Try.underlying3
theorem zero2 (w : World) : (zeroValue 2).run Try.prog w = .ok (.int .i64 0) w := by kernel_rfl
/-- Block bm is a map that reads as L. -/
def MapI (w : World) (bm : Nat) (L : List (Int × Int)) : Prop := ∃ D : DataW Unit, w.ownsMap Try.prog 3 (plainElem Try.prog 2) bm L.length D ∧ View D L
/-- Marks in block b, their map in block bm. -/
structure MkS (w : World) (base b bm : Nat) (L : List (Int × Int)) : Prop where
  hb : base ≤ b
  hm : base ≤ bm
  ne : b ≠ bm
  cell : w.heap[b]? = some (.cells #[.map (some bm)] 52 (0, 0))
  map : MapI w bm L
  good : Good L
  len : L.length ≤ 24
theorem tight {w : World} {bm n : Nat} {D : DataW Unit} (h : w.ownsMap Try.prog 3 (plainElem Try.prog 2) bm n D) {m : Nat} (hm : Maps.size D ≤ m) : w.ownsMap Try.prog 3 (plainElem Try.prog 2) bm m D := by
  obtain ⟨es, clock, hb, F, hs, rfl⟩ := h
  refine ⟨es, clock, hb, F, ?_, rfl⟩
  have e1 := length_read (P := Try.prog) (k := 3) (R0 := plainElem (H := Unit) Try.prog 2) es
  rw [size_eq] at hm
  omega
theorem MkS.lt {w : World} {base b bm : Nat} {L : List (Int × Int)} (h : MkS w base b bm L) : b < w.heap.size ∧ bm < w.heap.size := by
  obtain ⟨D, ho, _⟩ := h.map
  exact ⟨(Array.getElem?_eq_some_iff.1 h.cell).1, ho.lt⟩
theorem MapI.kept {w w' : World} {bm : Nat} {L : List (Int × Int)} {row : Option Nat} (h : MapI w bm L) (hg : w.grownBy w' row) (hne : some bm ≠ row) : MapI w' bm L := by
  obtain ⟨D, ho, hv⟩ := h
  exact ⟨D, ho.kept hg hne, hv⟩
theorem MkS.kept {w w' : World} {base b bm : Nat} {L : List (Int × Int)} {row : Option Nat} (h : MkS w base b bm L) (hg : w.grownBy w' row) (hne : some bm ≠ row) (hne2 : some b ≠ row) : MkS w' base b bm L :=
  ⟨h.hb, h.hm, h.ne, (hg.block b h.lt.1 hne2).trans h.cell, h.map.kept hg hne, h.good, h.len⟩
theorem MkS.below {w w' : World} {base b bm : Nat} {L : List (Int × Int)} (h : MkS w base b bm L) (hb : Below w.heap.size w w') : MkS w' base b bm L := by
  have h1 := h.lt
  obtain ⟨D, ho, hv⟩ := h.map
  refine ⟨h.hb, h.hm, h.ne, (hb.block b h1.1).trans h.cell, ⟨D, ?_, hv⟩, h.good, h.len⟩
  obtain ⟨es, clock, hbb, F, hs, rfl⟩ := ho
  exact ⟨es, clock, (hb.block bm h1.2).trans hbb, F, hs, rfl⟩
/-- Other marks were turned. -/
theorem MkS.other {w w' : World} {base b bm base1 b1 bm1 : Nat} {L L1 : List (Int × Int)} (h : MkS w base b bm L) (h1 : MkS w base1 b1 bm1 L1) (hne : bm ≠ bm1) (hg : w.grownBy w' (some bm1)) : MkS w' base b bm L := by
  refine h.kept hg (by simpa using hne) (fun e => ?_)
  injection e with e
  subst e
  obtain ⟨D, ⟨es, clock, hbb, _⟩, _⟩ := h1.map
  have := h.cell
  rw [hbb] at this
  simp at this
theorem MkS.from {w0 w w1 : World} {base b bm : Nat} {L : List (Int × Int)} (h : MkS w base b bm L) (hb : Below base w0 w) (hs : base ≤ w.heap.size) (hg : w.grownBy w1 (some bm)) : Below base w0 w1 :=
  hb.grown hg hs (fun k hk => by
    have := h.hm
    simp only [Option.some.injEq] at hk
    omega)
/-- A guarded operation that is carried out. -/
theorem wpList_open {P : Program} {ops : Array Oper} {Q : Exit → Act → World → Prop} {a : Act} {w : World} {rest : List Oper} {o : Oper} (hw : Region.wanted o (yielded ops a.tmps) = true) (h : wpList P ops Q ({ o with guard := none } :: rest) a w) : wpList P ops Q (o :: rest) a w := by
  unfold wpList at h ⊢
  rw [if_pos hw]
  rw [if_pos (show Region.wanted { o with guard := none } _ = true from rfl)] at h
  exact h
theorem rd_nat (l : List Int) (k : Nat) : rd l (k : Int) = l.getD k 0 := by unfold rd; rw [Int.toNat_natCast]
theorem wf64 {a : Int} (h0 : -9223372036854775808 ≤ a) (h1 : a ≤ 9223372036854775807) : (Lit.int .i64 a).wf = true := by
  have e1 : IntKind.i64.min = -9223372036854775808 := by decide
  have e2 : IntKind.i64.max = 9223372036854775807 := by decide
  simp only [Lit.wf, e1, e2, Bool.and_eq_true, decide_eq_true_eq]
  omega

set_option maxHeartbeats 1000000 in
theorem seen_any (b bm base : Nat) (L : List (Int × Int)) (v : Int) (w : World) (h : MkS w base b bm L) (v0 : -9223372036854775808 ≤ v) (v1 : v ≤ 9223372036854775807) :
    Calls Try.prog 11 #[.pointer (some ⟨b, 0, none⟩), .int .i64 v] w fun e w' => e = .returned (.int .i64 (seen L v)) ∧ w = w' := by
  obtain ⟨D, ho, hv⟩ := h.map
  have hcell : w.cell? ⟨b, 0, none⟩ = some (.map (some bm)) := by simp [World.cell?, h.cell]
  have hkey := keyOf_int_mk (P := Try.prog) (k := 3) (q := .i64) Try.underlying3 (wf64 v0 v1)
  have hat := hv.at_ v
  have hhas := hv.has v
  have HO := Aside0.mk ho
  clear ho hv h
  unfold seen
  cases hl : lk L v with
  | none =>
    rw [hl] at hhas
    simp only [Option.isSome_none] at hhas
    have HH := Aside0.mk hhas
    clear hat
    go_enter Try.func11, Try.ntmps11
    go_wp2_with (at_lookup; refine wpList_lookup_own_ok_int _ rfl _ _ _ rfl 3 2 .i64 K3 Try.underlying50 Try.underlying2 (zero2 _) bm _ D rfl HO.out _ _ rfl hkey ?_; intro c _ _)
    go_ret
    exact ⟨rfl, rfl⟩
  | some n =>
    rw [hl] at hhas
    simp only [Option.isSome_some] at hhas
    have hat := Aside0.mk (hat n hl)
    go_enter Try.func11, Try.ntmps11
    go_wp2_with (at_lookup; refine wpList_lookup_own_ok_int _ rfl _ _ _ rfl 3 2 .i64 K3 Try.underlying50 Try.underlying2 (zero2 _) bm _ D rfl HO.out _ _ rfl hkey ?_; intro c hc _; rw [hat.out] at hc; injection hc with hc; injection hc with _ hc; subst hc)
    go_ret
    exact ⟨rfl, rfl⟩
theorem seen_none (v : Int) (w : World) :
    Calls Try.prog 11 #[.pointer none, .int .i64 v] w fun e w' => e = .returned (.int .i64 (-1)) ∧ w = w' := by
  go_enter Try.func11, Try.ntmps11
  go_wp2
  go_ret
  exact ⟨rfl, rfl⟩
theorem wfr_i64 {n : Int} (h : (Lit.int .i64 n).wf = true) : -9223372036854775808 ≤ n ∧ n ≤ 9223372036854775807 := by
  simp [Lit.wf, IntKind.min, IntKind.max, IntKind.bits, IntKind.signed] at h
  omega
theorem wfr_u64 {n : Int} (h : (Lit.int .u64 n).wf = true) : 0 ≤ n ∧ n < 18446744073709551616 := by
  simp [Lit.wf, IntKind.min, IntKind.max, IntKind.bits, IntKind.signed] at h
  omega
theorem wfr_u8 {n : Int} (h : (Lit.int .u8 n).wf = true) : 0 ≤ n ∧ n < 256 := by
  simp [Lit.wf, IntKind.min, IntKind.max, IntKind.bits, IntKind.signed] at h
  omega
theorem wfr_i32 {n : Int} (h : (Lit.int .i32 n).wf = true) : -2147483648 ≤ n ∧ n ≤ 2147483647 := by
  simp [Lit.wf, IntKind.min, IntKind.max, IntKind.bits, IntKind.signed] at h
  omega
attribute [local go_sem] max2_int min2_int max_two min_two
set_option maxHeartbeats 1000000 in
theorem see_any (b bm base : Nat) (L : List (Int × Int)) (v t : Int) (w : World) (h : MkS w base b bm L) (v0 : -9223372036854775808 ≤ v) (v1 : v ≤ 9223372036854775807) (t0 : -9223372036854775808 ≤ t) (t1 : t ≤ 9223372036854775807) :
    Calls Try.prog 12 #[.pointer (some ⟨b, 0, none⟩), .int .i64 v, .int .i64 t] w fun e w' => e = .returned (.tuple #[.bool (see L v t).2.1, .int .i64 (see L v t).2.2]) ∧ MkS w' base b bm (see L v t).1 ∧ w.grownBy w' (some bm) := by
  have H := h
  obtain ⟨D, ho, hv⟩ := h.map
  have hcell : w.cell? ⟨b, 0, none⟩ = some (.map (some bm)) := by simp [World.cell?, h.cell]
  have hkey := keyOf_int_mk (P := Try.prog) (k := 3) (q := .i64) Try.underlying3 (wf64 v0 v1)
  have hat := hv.at_ v
  have hhas := hv.has v
  have hg0 : w.grownBy w (some bm) := ⟨rfl, rfl, rfl, Nat.le_refl _, fun _ _ _ => rfl⟩
  have HO := Aside0.mk ho
  have HV := Aside0.mk hv
  have HH0 := Aside0.mk H
  have HG0 := Aside0.mk hg0
  clear ho hv h H hg0
  unfold see
  cases hl : lk L v with
  | none =>
    rw [hl] at hhas
    simp only [Option.isSome_none] at hhas
    clear hat
    go_enter Try.func12, Try.ntmps12
    go_wp2_with (at_lookup; refine wpList_lookup_own_ok_int _ rfl _ _ _ rfl 3 2 .i64 K3 Try.underlying50 Try.underlying2 (zero2 _) bm _ D rfl HO.out _ _ rfl hkey ?_; intro c _ _)
    go_ret2
    exact ⟨rfl, HH0.out, HG0.out⟩
  | some n =>
    rw [hl] at hhas
    simp only [Option.isSome_some] at hhas
    have hat := Aside0.mk (hat n hl)
    have hn := HH0.out.good.vals _ (lk_mem hl)
    simp only at hn
    by_cases hr : t < 0 ∨ 1099511627776 < t
    · have HR := Aside0.mk hr
      simp only [if_pos hr]
      by_cases hr0 : t < 0
      · have hd : decide (t < 0) = true := by simpa using hr0
        go_enter Try.func12, Try.ntmps12
        go_wp2_with (at_lookup; refine wpList_lookup_own_ok_int _ rfl _ _ _ rfl 3 2 .i64 K3 Try.underlying50 Try.underlying2 (zero2 _) bm _ D rfl HO.out _ _ rfl hkey ?_; intro c hc _; rw [hat.out] at hc; injection hc with hc; injection hc with _ hc; subst hc)
        go_ret2
        exact ⟨rfl, HH0.out, HG0.out⟩
      · have hd : decide (t < 0) = false := by simpa using hr0
        have hd2 : decide (1099511627776 < t) = true := by simp; omega
        go_enter Try.func12, Try.ntmps12
        go_wp2_with (at_lookup; refine wpList_lookup_own_ok_int _ rfl _ _ _ rfl 3 2 .i64 K3 Try.underlying50 Try.underlying2 (zero2 _) bm _ D rfl HO.out _ _ rfl hkey ?_; intro c hc _; rw [hat.out] at hc; injection hc with hc; injection hc with _ hc; subst hc)
        go_ret2
        exact ⟨rfl, HH0.out, HG0.out⟩
    · simp only [if_neg hr]
      have hd : decide (t < 0) = false := by simp; omega
      have hd2 : decide (1099511627776 < t) = false := by simp; omega
      obtain ⟨u, hu⟩ : ∃ u, Aside0 ((if n < t then t else n) = u) := ⟨_, ⟨rfl⟩⟩
      have hub : -1 ≤ u ∧ u ≤ 1099511627776 := by have := hu.out; split at this <;> omega
      have hval := plainElem_int (H := Unit) (P := Try.prog) (e := 2) (q := .i64) Try.underlying2 (wf64 (a := u) (by omega) (by omega))
      rw [hu.out]
      have HL := Aside0.mk hl
      clear hl hr
      go_enter Try.func12, Try.ntmps12
      go_wp2_with (first | (at_lookup; refine wpList_lookup_own_ok_int _ rfl _ _ _ rfl 3 2 .i64 K3 Try.underlying50 Try.underlying2 (zero2 _) bm _ D rfl HO.out _ _ rfl hkey ?_; intro c hc _; rw [hat.out] at hc; injection hc with hc; injection hc with _ hc; subst hc) | (at_mapUpdate; refine wpList_mapUpdate_own _ rfl _ _ _ _ rfl 3 2 K3 Try.underlying50 _ bm _ D rfl HO.out (by have := HH0.out.len; have : 24 < maxLen := (by decide); omega) _ _ (.int .i64 v) rfl (by first | exact congrArg (Value.int .i64) hu.out | (go_simp; exact congrArg (Value.int .i64) hu.out)) hkey _ [] hval ?_; intro w1 ho1_ hg_; have HO1 := Aside0.mk ho1_; have HG := Aside0.mk hg_; clear ho1_ hg_))
      all_goals go_ret2
      all_goals refine ⟨by first | rfl | (congr 4; simp; omega), ⟨HH0.out.hb, HH0.out.hm, HH0.out.ne, (HG.out.block b HH0.out.lt.1 (by have := HH0.out.ne; simpa using this)).trans HH0.out.cell, ⟨_, ?_, HV.out.put u HL.out⟩, HH0.out.good.upd v hub.1 hub.2, by rw [upd_len]; exact HH0.out.len⟩, HG.out⟩
      all_goals exact tight HO1.out (by rw [(HV.out.put u HL.out).size]; exact Nat.le_refl _)
theorem see_none (v t : Int) (w : World) :
    Calls Try.prog 12 #[.pointer none, .int .i64 v, .int .i64 t] w fun e w' => e = .returned (.tuple #[.bool false, .int .i64 6]) ∧ w = w' := by
  go_enter Try.func12, Try.ntmps12
  go_wp2
  go_ret2
  exact ⟨rfl, rfl⟩
theorem mark_none (w : World) :
    Calls Try.prog 10 #[.pointer none] w fun e w' => e = .returned (.int .i64 (-1)) ∧ w = w' := by
  go_enter Try.func10, Try.ntmps10
  go_wp2
  go_ret
  exact ⟨rfl, rfl⟩
set_option maxHeartbeats 1000000 in
theorem mark_any (b bm base : Nat) (L : List (Int × Int)) (w : World) (h : MkS w base b bm L) :
    Calls Try.prog 10 #[.pointer (some ⟨b, 0, none⟩)] w fun e w' => e = .returned (.int .i64 (mark L)) ∧ Below w.heap.size w w' := by
  obtain ⟨D, ho, hv⟩ := h.map
  have hcell : w.cell? ⟨b, 0, none⟩ = some (.map (some bm)) := by simp [World.cell?, h.cell]
  have hsz := hv.size
  have HO := Aside0.mk ho
  have HV := Aside0.mk hv
  have HG := Aside0.mk h.good
  have HB := Aside0.mk (Below.refl w.heap.size w)
  clear ho hv h
  unfold mark
  by_cases he : L = []
  · rw [if_pos he]
    have h0 : Maps.size D = 0 := by rw [hsz, he]; rfl
    clear hsz
    go_enter Try.func10, Try.ntmps10
    go_wp2_with (at_len; refine wpList_open (by rfl) ?_; refine wpList_len_own _ rfl _ _ rfl 3 2 Try.underlying50 _ bm _ D rfl HO.out ?_)
    go_ret
    exact ⟨rfl, HB.out⟩
  · rw [if_neg he]
    have h0 : Maps.size D ≠ 0 := by rw [hsz]; exact fun e => he (List.length_eq_zero_iff.1 e)
    have h0' : ((Maps.size D : Int) == 0) = false := beq_eq_false_iff_ne.2 (by omega)
    clear hsz
    go_enter Try.func10, Try.ntmps10
    go_wp2_with (first | (at_len; refine wpList_open (by rfl) ?_; refine wpList_len_own _ rfl _ _ rfl 3 2 Try.underlying50 _ bm _ D rfl HO.out ?_) | (at_range; refine wpList_range_own _ rfl _ _ rfl 3 2 K3 Try.underlying50 _ bm _ D rfl HO.out ?_; intro w0 hrg0 hg0 hs0))
    have HR0 := Aside0.mk hrg0
    have HB0 := Aside0.mk (HB.out.grown hg0 (Nat.le_refl _) (fun _ h => by cases h))
    clear hrg0 hg0 hs0
    go_frame
    go_loopw [3] (fun v3 wr => ∃ (m : Int) (left : Lit → Bool) (cnt : Nat), v3 = .int .i64 m ∧ Aside0 (wr.ranges Try.prog 3 (plainElem Try.prog 2) bm w.heap.size L.length D left cnt) ∧ Aside0 (Below w.heap.size w wr) ∧ Aside0 (MRel L left m)) (fun _ wr => wr.rangeLeft bm w.heap.size)
    case atStart => exact ⟨_, _, _, rfl, HR0, HB0, ⟨MRel.start HV.out⟩⟩
    case round =>
      clear HR0 HB0
      obtain ⟨m, left, cnt, rfl, HR, HB, HM⟩ := hrel
      go_wp2_with (at_next; refine wpList_next_ranges_ii _ rfl _ rfl 3 2 .i64 .i64 K3 Try.underlying3 Try.underlying2 bm w.heap.size _ _ _ _ rfl HR.out ?_ ?_)
      · intro _ hl0
        go_wp2
        go_ret
        exact ⟨by rw [HM.out.done hl0]; rfl, HB.out⟩
      · intro x c w1 cnt1 hwx hwc hlx hat hrg1 hlt hg1 hs1 hen
        have HB1 := Aside0.mk (HB.out.grown hg1 (below_size HB.out) (fun j hj => by cases hj; exact Nat.le_refl _))
        have HR1 := Aside0.mk hrg1
        have HM1 := Aside0.mk (HM.out.step HG.out HV.out hlx hat)
        have HC := Aside0.mk (show cnt1 < cnt from hlt)
        clear hrg1 hlt hg1 hwx hwc hlx hat
        go_wp2
        go_roundw
        case rel => exact ⟨_, _, cnt1, rfl, HR1, HB1, HM1⟩
        case measure => rw [HR1.out.left_eq, HR.out.left_eq]; exact HC.out
/-- New: under way, i inputs taken. -/
structure NRel (w : World) (l : List Int) (i bm : Nat) (wr : World) : Prop where
  map : MapI wr bm (initL (l.take i))
  rise : Rise l i
  below : Below w.heap.size w wr
  cell : wr.heap[bm + 1]? = some (.cells #[.map (some bm)] 52 (0, 0))
theorem initL_len (l : List Int) : (initL l).length = l.length := by simp [initL]
theorem lk_init_none {l : List Int} {i : Nat} (h : Rise l (i + 1)) (hi : i < l.length) : lk (initL (l.take i)) (l.getD i 0) = none := by
  rw [lk_none]
  intro p hp
  unfold initL at hp
  obtain ⟨x, hx, rfl⟩ := List.mem_map.1 hp
  obtain ⟨j, hj, rfl⟩ := List.getElem_of_mem hx
  rw [List.length_take] at hj
  have := rise_lt h (i - j - 1) j (by omega)
  rw [show j + (i - j - 1) + 1 = i by omega] at this
  simp only [List.getElem_take]
  have e : l.getD j 0 = l[j]'(by omega) := by rw [List.getD_eq_getElem?_getD, List.getElem?_eq_getElem (by omega)]; rfl
  rw [e] at this
  exact fun h => by rw [h] at this; omega
theorem initL_succ {l : List Int} {i : Nat} (hi : i < l.length) : initL (l.take (i + 1)) = initL (l.take i) ++ [(l.getD i 0, -1)] := by
  unfold initL
  rw [List.take_succ_eq_append_getElem hi, List.getD_eq_getElem?_getD, List.getElem?_eq_getElem hi, List.map_append]
  rfl
theorem NRel.next {w wr w1 : World} {l : List Int} {i : Nat} {D : DataW Unit} {x : Int} (h : NRel w l i w.heap.size wr) (ho : w1.ownsMap Try.prog 3 (plainElem Try.prog 2) w.heap.size ((initL (l.take i)).length + 1) (D.put (.int .i64 x) (.lit (.int .i64 (-1))))) (hv : View D (initL (l.take i))) (hg : wr.grownBy w1 (some w.heap.size))
    (hr : Rise l (i + 1)) (hi : i < l.length) (hx : l.getD i 0 = x) : NRel w l (i + 1) w.heap.size w1 := by
  have hv1 := hv.snoc (-1) (k := x) (by rw [← hx]; exact lk_init_none hr hi)
  refine ⟨⟨_, tight ho ?_, ?_⟩, hr, h.below.grown hg (below_size h.below) (fun k hk => by cases hk; exact Nat.le_refl _), (hg.block _ ((Array.getElem?_eq_some_iff.1 h.cell).1) (by simp)).trans h.cell⟩
  · rw [hv1.size, initL_succ hi, List.length_append, List.length_append]
    exact Nat.le_refl _
  · rw [initL_succ hi, hx]
    exact hv1
set_option maxHeartbeats 2000000 in
theorem new_any (A0 : Option Addr) (c0 n : Nat) (l : List Int) (w : World) (hn : l.length = n) (hr0 : (Kd.int .i64).C w A0 n l) (hc0 : n ≤ c0) (hN : n ≤ 9223372036854775807) (hi : ∀ x ∈ l, -9223372036854775808 ≤ x ∧ x ≤ 9223372036854775807) :
    Calls Try.prog 9 #[.slice A0 n c0] w fun e w' => Below w.heap.size w w' ∧ (newOk l → ∃ b bm, e = .returned (.tuple #[.pointer (some ⟨b, 0, none⟩), .int .i64 0]) ∧ MkS w' w.heap.size b bm (initL l)) ∧ (¬ newOk l → e = .returned (.tuple #[.pointer none, .int .i64 1])) := by
  have HN := Aside0.mk hn
  have HI := Aside0.mk hi
  have HC := Aside0.mk hr0
  have HB := Aside0.mk (Below.refl w.heap.size w)
  have hmm := @run_makeMap Try.prog
  clear hn hi hr0
  by_cases h0 : n = 0
  · subst h0
    go_enter Try.func9, Try.ntmps9
    go_wp2
    go_ret2
    exact ⟨HB.out, fun h => absurd (List.length_eq_zero_iff.1 HN.out) h.1, fun _ => rfl⟩
  have h0a : ((n : Int) == 0) = false := beq_eq_false_iff_ne.2 (by omega)
  have h0b : (n == 0) = false := beq_eq_false_iff_ne.2 (by omega)
  by_cases h1 : 24 < n
  · have h1a : decide ((24 : Int) < (n : Int)) = true := by simp; omega
    have h1b : decide (24 < n) = true := by simp; omega
    go_enter Try.func9, Try.ntmps9
    go_wp2
    go_ret2
    exact ⟨HB.out, fun h => by have := h.2.1; rw [HN.out] at this; omega, fun _ => rfl⟩
  have h1a : decide ((24 : Int) < (n : Int)) = false := by simp; omega
  have h1b : decide (24 < n) = false := by simp; omega
  obtain ⟨ad, hA, hx⟩ := Kd.at_int (by have := HC.out; rw [← HN.out] at this; exact this) 0 (by omega) (by rw [HN.out]; omega)
  subst hA
  have hx0 : w.cell? ad = some (.int .i64 (rd l 0)) := by have := hx; rwa [show ad.add (Int.toNat 0) = ad by simp [Addr.add]] at this
  clear hx
  by_cases h2 : rd l 0 < 0
  · have h2a : decide (rd l 0 < 0) = true := by simpa using h2
    have HX := Aside0.mk (show ¬ newOk l from fun h => by have := h.2.2.1; rw [← rd_nat] at this; exact absurd h2 (by simpa using this))
    generalize rd l 0 = x0 at *
    go_enter Try.func9, Try.ntmps9
    go_wp2
    go_ret2
    exact ⟨HB.out, fun h => absurd h HX.out, fun _ => rfl⟩
  have h2a : decide (rd l 0 < 0) = false := by simpa using h2
  have HX := Aside0.mk (show 0 ≤ l.getD 0 0 by rw [← rd_nat]; simpa using h2)
  generalize rd l 0 = x0 at *
  go_enter Try.func9, Try.ntmps9
  go_wp2
  go_loopw [26] (fun v26 wr => ∃ i : Nat, i ≤ n ∧ v26 = .int .i64 (i : Int) ∧ Aside0 (NRel w l i w.heap.size wr)) (fun v26 _ => n - (intOf v26).toNat)
  case atStart =>
    refine ⟨0, by omega, rfl, ⟨⟨⟨_, ((World.ownsMap_made w _ _ _).alloc _), by rw [List.take_zero]; exact view_nil⟩, fun i h => by omega, below_alloc (below_alloc HB.out _) _, ?_⟩⟩⟩
    have e : (w.alloc (.map #[] 0)).heap.size = w.heap.size + 1 := by simp
    rw [← e]
    exact heap_alloc_new _ _
  case round =>
    clear HB
    obtain ⟨i, hi, rfl, HR⟩ := hrel
    obtain ⟨D, ho, hv⟩ := HR.out.map
    have HO := Aside0.mk ho
    have HV := Aside0.mk hv
    have hcell : wr.cell? ⟨w.heap.size + 1, 0, none⟩ = some (.map (some w.heap.size)) := by simp [World.cell?, HR.out.cell]
    clear ho hv
    by_cases hlt : i < n
    · have h3 : decide ((i : Int) < (n : Int)) = true := by simp; omega
      have h3b : decide (i < n) = true := by simp; omega
      obtain ⟨ad1, hA1, hx⟩ := Kd.at_int (by have := Kd.C_below HC.out HR.out.below; rw [← HN.out] at this; exact this) i (by omega) (by rw [HN.out]; omega)
      injection hA1 with hA1
      subst hA1
      have hxi : wr.cell? (ad.add i) = some (.int .i64 (rd l i)) := hx
      have HS := Aside0.mk (initL_succ (l := l) (i := i) (by rw [HN.out]; exact hlt))
      clear hx
      obtain ⟨x, HX1⟩ : ∃ x, Aside0 (rd l i = x) := ⟨_, ⟨rfl⟩⟩
      rw [HX1.out] at hxi
      rw [rd_nat] at HX1
      have hb := HI.out x (by rw [← HX1.out, List.getD_eq_getElem?_getD, List.getElem?_eq_getElem (by rw [HN.out]; exact hlt)]; exact List.getElem_mem _)
      have hkey := keyOf_int_mk (P := Try.prog) (k := 3) (q := .i64) Try.underlying3 (wf64 hb.1 hb.2)
      have hval := plainElem_int (H := Unit) (P := Try.prog) (e := 2) (q := .i64) Try.underlying2 (wf64 (a := -1) (by omega) (by omega))
      by_cases hz : i = 0
      · have hz1 : decide ((0 : Int) < (i : Int)) = false := by simp; omega
        have hz2 : decide (0 < i) = false := by simp; omega
        have HR1 := Aside0.mk (show Rise l (i + 1) from fun k hk => by omega)
        have HZ := Aside0.mk hz
        clear hz
        go_wp2_with (at_mapUpdate; refine wpList_mapUpdate_own _ rfl _ _ _ _ rfl 3 2 K3 Try.underlying50 _ _ _ D rfl HO.out (by have : 24 < maxLen := (by decide); have := List.length_take_le i l; rw [initL_len]; omega) _ _ (.int .i64 x) rfl rfl hkey _ [] hval ?_; intro w1 ho1_ hg_; have HO1 := Aside0.mk ho1_; have HG := Aside0.mk hg_; clear ho1_ hg_)
        go_roundw
        case rel => exact ⟨i + 1, by omega, by go_num, ⟨HR.out.next HO1.out HV.out HG.out HR1.out (by rw [HN.out]; exact hlt) HX1.out⟩⟩
        case measure => simp [intOf]; omega
      · obtain ⟨j, hj⟩ : ∃ j, Aside0 (i = j + 1) := ⟨i - 1, ⟨by omega⟩⟩
        have hz1 : decide ((0 : Int) < (i : Int)) = true := by simp; omega
        have hz2 : decide (0 < i) = true := by simp; omega
        have hw : IntKind.i64.wrap ((i : Int) - 1) = (j : Int) := by have := hj.out; simp [IntKind.wrap, IntKind.bits, IntKind.signed]; omega
        have hje : (i : Int) - 1 = (j : Int) := by have := hj.out; omega
        have hjn : decide (j < n) = true := by have := hj.out; simp; omega
        obtain ⟨ad1, hA1, hx⟩ := Kd.at_int (by have := Kd.C_below HC.out HR.out.below; rw [← HN.out] at this; exact this) j (by omega) (by have := hj.out; rw [HN.out]; omega)
        injection hA1 with hA1
        subst hA1
        have hxj : wr.cell? (ad.add j) = some (.int .i64 (rd l j)) := hx
        clear hx
        obtain ⟨y, HY⟩ : ∃ y, Aside0 (rd l j = y) := ⟨_, ⟨rfl⟩⟩
        rw [HY.out] at hxj
        rw [rd_nat] at HY
        by_cases hle : x ≤ y
        · have hl1 : decide (x ≤ y) = true := by simpa using hle
          have HX0 := Aside0.mk (show ¬ newOk l from fun h => by have := h.2.2.2 j (by have := hj.out; rw [HN.out]; omega); rw [← hj.out, HX1.out, HY.out] at this; omega)
          go_wp2
          go_ret2
          exact ⟨HR.out.below, fun h => absurd h HX0.out, fun _ => rfl⟩
        · have hl1 : decide (x ≤ y) = false := by simpa using hle
          have HR1 := Aside0.mk (show Rise l (i + 1) from fun k hk => by
            by_cases e : k = j
            · subst e
              rw [← hj.out, HX1.out, HY.out]
              omega
            · exact HR.out.rise k (by have := hj.out; omega))
          go_wp2_with (at_mapUpdate; refine wpList_mapUpdate_own _ rfl _ _ _ _ rfl 3 2 K3 Try.underlying50 _ _ _ D rfl HO.out (by have : 24 < maxLen := (by decide); have := List.length_take_le i l; rw [initL_len]; omega) _ _ (.int .i64 x) rfl rfl hkey _ [] hval ?_; intro w1 ho1_ hg_; have HO1 := Aside0.mk ho1_; have HG := Aside0.mk hg_; clear ho1_ hg_)
          go_roundw
          case rel => exact ⟨i + 1, by omega, by go_num, ⟨HR.out.next HO1.out HV.out HG.out HR1.out (by rw [HN.out]; exact hlt) HX1.out⟩⟩
          case measure => simp [intOf]; omega
    · obtain rfl : i = n := by omega
      have HK := Aside0.mk (show newOk l from ⟨fun h => h0 (by rw [← HN.out, h]; rfl), by rw [HN.out]; omega, HX.out, by rw [HN.out]; exact HR.out.rise⟩)
      go_wp2
      go_ret2
      refine ⟨HR.out.below, fun _ => ⟨_, _, rfl, ⟨by omega, Nat.le_refl _, by omega, HR.out.cell, ?_, ?_, by rw [initL_len]; exact HK.out.2.1⟩⟩, fun h => absurd HK.out h⟩
      · have := HR.out.map
        rwa [← HN.out, List.take_length] at this
      · have := good_init HK.out.2.2.2 HX.out (fun x hx => (HI.out x hx).2)
        rwa [List.take_length] at this
end Go.Proofs.Ytegfglmnlfkolaa.Mk
