/- (c11) sorted: a map's keys, rising; slices.Sort at []int, off the shelf. -/
import Derived.Shelf.Lay
import Derived.Shelf.Sort.Plain
import Derived.Shelf.Slices.In.SortNone
import Derived.Ground.NamesProg
import Derived.Ground.Names2Prog
import Derived.Sort.OwnSortedInts
import Derived.Test.YtmnglonjekegcaaVwA
namespace Go.Proofs
open Go.Shelf
shelf_lay Lays.n189 Nm 189 at Try as Try.lays189
end Go.Proofs
namespace Go.Proofs.Ytmnglonjekegcaa.Vw
open Go Go.RowKit Go.Maps Go.Sort Go.Proofs.Ytmnglonjekegcaa.Mk Go.Proofs.YtmnglonjekegcaaW.PrintWords Go.Proofs.YtmnglonjekegcaaW.PrintLast Go.Proofs.YtmnglonjekegcaaW.PrintMore
set_option linter.unusedVariables false
set_option linter.unusedSimpArgs false
set_option maxRecDepth 100000
theorem sort_int (blk off cap : Nat) (zs : List Int) (w : World) (hH : Holds (Value.int .i64) w blk off zs.toArray) (hblk : blk < w.heap.size) (hsz : zs.length < 4611686018427387904) :
    Calls Try.prog 30 #[.slice (some ⟨blk, off, none⟩) zs.length cap] w fun e w' => e = .returned (.tuple #[]) ∧ ∃ n os, w' = grow (putRow (Value.int .i64) (Sort.ahead w n) blk off (zs.mergeSort fun x y => decide (x ≤ y)).toArray) os :=
  Any.slices_Sort_int Try.lays189 blk off cap zs w hH hblk hsz
theorem sort_none (p : Option Addr) (cap : Nat) (w : World) : Calls Try.prog 30 #[.slice p 0 cap] w fun e w' => e = .returned (.tuple #[]) ∧ w' = w := Any.slices_Sort_int_none Try.lays189 p cap w
/-- The inputs that have come, whatever the order: with those to come they are all. -/
structure ICol (ks : List Int) (left : Lit → Bool) (xs : List Int) : Prop where
  ex : ∃ rest, (xs ++ rest).Perm ks ∧ ∀ k : Int, left (.int .i64 k) = true ↔ k ∈ rest
theorem ICol.start {D : DataW Unit} {L : List (Int × Int)} (hv : View D L) : ICol (L.map (·.1)) (Maps.has D) [] := by
  refine ⟨L.map (·.1), List.Perm.refl _, fun k => ?_⟩
  rw [hv.has]
  cases hl : lk L k with
  | none =>
    have := lk_none.1 hl
    simp only [Option.isSome_none, Bool.false_eq_true, false_iff, List.mem_map, not_exists, not_and]
    exact this
  | some t =>
    have := lk_mem hl
    simp only [Option.isSome_some, true_iff, List.mem_map]
    exact ⟨_, this, rfl⟩
theorem ICol.step {ks xs : List Int} {left : Lit → Bool} {x : Int} (h : ICol ks left xs) (hn : ks.Nodup) (hx : left (.int .i64 x) = true) : ICol ks (fun z => left z && !z.sameKey (.int .i64 x)) (xs ++ [x]) := by
  obtain ⟨rest, hp, hl⟩ := h.ex
  have hm := (hl x).1 hx
  have hr : rest.Nodup := ((List.nodup_append.1 (hp.nodup_iff.2 hn)).2.1)
  refine ⟨rest.erase x, ?_, fun k => ?_⟩
  · rw [List.append_assoc]
    exact (List.Perm.append_left xs (List.perm_cons_erase hm).symm).trans hp
  · rw [hr.mem_erase_iff, ← hl k]
    simp [Lit.sameKey, and_comm]
theorem ICol.done {ks xs : List Int} {left : Lit → Bool} (h : ICol ks left xs) (hl : ∀ k, left k = false) : xs.Perm ks := by
  obtain ⟨rest, hp, h2⟩ := h.ex
  have : rest = [] := by
    cases rest with
    | nil => rfl
    | cons a r => have := (h2 a).2 (by simp); rw [hl] at this; cases this
  rw [this, List.append_nil] at hp
  exact hp
theorem sort_perm {ks xs : List Int} (hp : xs.Perm ks) : (xs.mergeSort fun x y => decide (x ≤ y)) = sortI ks := by
  have hs : ∀ l : List Int, (l.mergeSort fun x y => decide (x ≤ y)).Pairwise fun a b => decide (a ≤ b) = true := fun l => List.pairwise_mergeSort (fun a b c h1 h2 => by simp only [decide_eq_true_eq] at *; omega) (fun a b => by simp; omega) l
  exact List.Perm.eq_of_pairwise (le := fun a b : Int => decide (a ≤ b) = true) (fun a b _ _ h1 h2 => by simp only [decide_eq_true_eq] at h1 h2; omega) (hs xs) (hs ks) ((List.mergeSort_perm xs _).trans (hp.trans (List.mergeSort_perm ks _).symm))
theorem R_iter {w w1 : World} {base r : Nat} {xs : List Int} {v : Value} (h : (Kd.int .i64).R 3 w base (fun _ => True) v xs) (hr : r < base) (hg : w.grownBy w1 (some r)) : (Kd.int .i64).R 3 w1 base (fun _ => True) v xs :=
  Kd.R_mono (Kd.R_grown (Kd.R_bound h) hg (fun k hk he => by injection he with he; have := hk.2.1; omega)) (fun _ _ => trivial)
theorem infoInt : (Try.prog.info? 3).map (fun i => (i.zero, i.size, i.bytes)) = some (some (.int .i64 0), 1, 8) := by kernel_rfl
theorem inv_key : ∀ key kl, keyOf Try.prog 3 key = some kl → ∃ x, key = Value.int .i64 x := fun key kl hkey => by obtain ⟨x, rfl, _⟩ := Maps.keyOf_int_inv Try.underlying3 hkey; exact ⟨x, rfl⟩
theorem key_of {x : Int} {kl : Lit} (h : keyOf Try.prog 3 (Value.int .i64 x) = some kl) : kl = .int .i64 x := by
  obtain ⟨x', ex, rfl, _⟩ := Maps.keyOf_int_inv Try.underlying3 h
  injection ex with _ ex
  rw [ex]
theorem inv_ptr : ∀ v (y : DataW Unit × List MemPlace), ptrE v = some y → ∃ c, v = pv c := fun v y hv => by
  rcases ptrE_inv hv with ⟨rfl, _⟩ | ⟨b, rfl, _⟩
  · exact ⟨none, rfl⟩
  · exact ⟨some b, rfl⟩

set_option maxHeartbeats 2000000 in
set_option maxRecDepth 100000 in
theorem sortedL_ok (bm : Nat) (L : List (Int × Int)) (w : World) (h : MapP w bm L) (hnd : (L.map (·.1)).Nodup) (hlen : L.length ≤ 1000000) :
    Calls Try.prog 22 #[.map (some bm)] w fun e w' => ∃ A c, e = .returned (.slice A L.length c) ∧ w'.ownsRow w.heap.size 3 1 (.slice A L.length c) L.length (cellsI (sortI (L.map (·.1)))) ∧ Below w.heap.size w w' := by
  obtain ⟨D, ho, hv⟩ := h
  have hbm : bm < w.heap.size := ho.lt
  have HO := Aside0.mk ho
  have HV := Aside0.mk hv
  have HL24 := Aside0.mk hlen
  have HB := Aside0.mk (Below.refl w.heap.size w)
  have HND := Aside0.mk hnd
  clear ho hv hlen hnd
  go_enter Try.func22, Try.ntmps22
  go_wp2_with (at_range; refine wpList_range_own _ rfl _ _ rfl 3 58 KI Try.underlying59 _ bm _ D rfl HO.out ?_; intro w0 hrg0 hg0 hs0)
  have HR0 := Aside0.mk hrg0
  have HB0 := Aside0.mk (HB.out.grown hg0 (Nat.le_refl _) (fun _ h => by cases h))
  have HS0 := Aside0.mk (show w.heap.size + 1 ≤ w0.heap.size by omega)
  clear hrg0 hg0 hs0
  go_frame
  go_loopw [3] (fun v3 wr => ∃ (xs : List Int) (left : Lit → Bool) (cnt : Nat), Aside0 (wr.ranges Try.prog 3 ptrE bm w.heap.size L.length D left cnt) ∧ Aside0 (Below w.heap.size w wr) ∧ Aside0 (w.heap.size + 1 ≤ wr.heap.size) ∧ Aside0 ((Kd.int .i64).R 3 wr (w.heap.size + 1) (fun _ => True) v3 xs) ∧ Aside0 (ICol (L.map (·.1)) left xs)) (fun _ wr => wr.rangeLeft bm w.heap.size)
  case atStart => exact ⟨[], _, _, HR0, HB0, HS0, ⟨Kd.R_nil _ _ _ _ _⟩, ⟨ICol.start HV.out⟩⟩
  case round =>
    clear HR0 HB0 HS0
    obtain ⟨xs, left, cnt, HR, HB, HSZ, HX, HM⟩ := hrel
    go_wp2_with (at_next; refine wpList_next_ranges _ rfl _ rfl 3 KI ptrE (Value.int .i64) pv inv_key inv_ptr bm w.heap.size _ _ _ _ rfl HR.out ?_ ?_)
    · intro _ hl0
      have HP := Aside0.mk (HM.out.done hl0)
      have HLN := Aside0.mk (show xs.length = L.length by have := HP.out.length_eq; rwa [List.length_map] at this)
      have HSK := Aside0.mk (sort_perm HP.out)
      have hkl : (sortI (L.map (·.1))).length = L.length := by unfold sortI; rw [List.length_mergeSort, List.length_map]
      rcases (Kd.own_of_R HX.out).2 with ⟨rfl, h0⟩ | ⟨g, cap, cur, rfl, hgb, hblk, hn1, hn2, hn3, ht⟩
      · have h00 : L.length = 0 := HLN.out.symm.trans h0
        have H00 := Aside0.mk h00
        have HKL := Aside0.mk hkl
        clear h00 h0 hkl
        go_wp2_with fail
        refine (sort_none none 0 _).mono ?_
        rintro e w2 ⟨rfl, rfl⟩
        go_wp2
        go_ret
        refine ⟨none, 0, by rw [H00.out]; rfl, ?_, HB.out⟩
        have e0 : sortI (L.map (·.1)) = [] := List.length_eq_zero_iff.1 (HKL.out.trans H00.out)
        rw [H00.out, e0]
        exact World.ownsRow_nil _ _ _ _
      have HKL := Aside0.mk hkl
      have HBL := Aside0.mk hblk
      have HH := Aside0.mk (holds_of_blockI hblk (show cur.toList.take xs.length = xs.map (Value.int .i64) by rw [Nat.mul_one] at ht; exact ht))
      have hlt : g < wr.heap.size := (Array.getElem?_eq_some_iff.1 hblk).1
      have HCS := Aside0.mk hn3
      have HCM := Aside0.mk hn2
      have hl24 := HL24.out
      have hln : xs.length ≤ 1000000 := by have := HLN.out; omega
      clear hblk ht hn3 hkl hn2
      go_wp2_with fail
      refine (sort_int g 0 cap xs _ HH.out hlt (by omega)).mono ?_
      rintro e w2 ⟨rfl, n, os, rfl⟩
      rw [HSK.out]
      go_wp2
      go_ret
      refine ⟨some ⟨g, 0, none⟩, cap, by rw [HLN.out]; rfl, ?_, HB.out.grown (grownBy_sortedI _) (below_size HB.out) (fun k hk => by injection hk with hk; omega)⟩
      have htk := take_putCellsI cur (sortI (L.map (·.1))) (by have := HCS.out; have := HLN.out; have := HKL.out; omega)
      refine ⟨by unfold cellsI; rw [List.length_map, HKL.out, Nat.mul_one], .inr ⟨g, cap, _, rfl, by omega, heap_sortedI _ HBL.out, by have := HLN.out; omega, HCM.out, by simp [putCells]; have := HCS.out; omega, ?_⟩⟩
      rw [Nat.mul_one, ← HKL.out]
      exact htk
    · intro x c kl y1 y2 w1 cnt1 hkey hlx hRc hat hrg1 hlt hg1 hs1 hen
      obtain rfl : kl = .int .i64 x := key_of hkey
      have HB1 := Aside0.mk (HB.out.grown hg1 (below_size HB.out) (fun j hj => by cases hj; exact Nat.le_refl _))
      have HR1 := Aside0.mk hrg1
      have HO1 := Aside0.mk (R_iter HX.out (Nat.lt_succ_self _) hg1)
      have HM1 := Aside0.mk (HM.out.step HND.out hlx)
      have HC := Aside0.mk (show cnt1 < cnt from hlt)
      have HSZ1 := Aside0.mk (show w.heap.size + 1 ≤ w1.heap.size by have := HSZ.out; omega)
      have HL := Aside0.mk (show xs.length ≤ 1000000 by
        obtain ⟨rest, hp, _⟩ := HM.out.ex
        have := hp.length_eq
        rw [List.length_append, List.length_map] at this
        have := HL24.out
        omega)
      have HBK := Aside0.mk (show ∀ j, u3.ownBlock = some j → w.heap.size + 1 ≤ j from fun j hj => (Kd.R_bound HO1.out).1 j hj |>.2.1)
      clear hrg1 hlt hg1 hkey hlx hRc hat hs1
      go_wp2_with (((with_reducible refine gate_builtin (b := .append) (xs := #[.tmp 11, .tmp 13]) rfl ?_); at_builtin; refine Kd.R_append (Kd.int .i64) (w0 := w1) (w.heap.size + 1) rfl (.tmp 11) (.tmp 13) 39 3 (.int .i64 0) 8 rfl Try.underlying39 infoInt rfl (by decide) (by omega) u3 xs x [.int .i64 x] (fun _ => True) (fun _ => False) rfl rfl ?aP (fun _ hk => hk.elim) (fun _ _ => trivial) ?aO ?aB ?aS ?aL ?_; (try (case aP => exact rfl)); (case aB => exact (Below.refl _ _)); (case aO => exact (by (with_reducible repeat (first | apply Kd.R_alloc | apply Kd.R_drewN | apply Kd.R_drew)); exact HO1.out)); (case aS => exact HSZ1.out); (case aL => have := HL.out; omega); intro v14 w19 ho_ hb hg hat; have n0_ := Aside0.mk (ho_); clear HO1; have HO1 := n0_; clear n0_; have HG9 := Aside0.mk hg; have HB9 := Aside0.mk (HB1.out.grown hg (below_size HB1.out) (fun j hj => by have := HBK.out j hj; omega)); clear ho_ hb hg hat))
      go_roundw
      case rel => exact ⟨xs ++ [x], _, cnt1, ⟨HR1.out.kept HG9.out (fun e => by have := HBK.out _ e.symm; omega) (fun e => by have := HBK.out _ e.symm; omega)⟩, HB9, ⟨Nat.le_trans HSZ1.out HG9.out.size⟩, HO1, HM1⟩
      case measure => rw [(HR1.out.kept HG9.out (fun e => by have := HBK.out _ e.symm; omega) (fun e => by have := HBK.out _ e.symm; omega)).left_eq, HR.out.left_eq]; exact HC.out


set_option maxHeartbeats 2000000 in
set_option maxRecDepth 100000 in
theorem sortedT_ok (bm : Nat) (L : List (Int × Int)) (w : World) (h : MapP w bm L) (hnd : (L.map (·.1)).Nodup) (hlen : L.length ≤ 1000000) :
    Calls Try.prog 23 #[.map (some bm)] w fun e w' => ∃ A c, e = .returned (.slice A L.length c) ∧ w'.ownsRow w.heap.size 3 1 (.slice A L.length c) L.length (cellsI (sortI (L.map (·.1)))) ∧ Below w.heap.size w w' := by
  obtain ⟨D, ho, hv⟩ := h
  have hbm : bm < w.heap.size := ho.lt
  have HO := Aside0.mk ho
  have HV := Aside0.mk hv
  have HL24 := Aside0.mk hlen
  have HB := Aside0.mk (Below.refl w.heap.size w)
  have HND := Aside0.mk hnd
  clear ho hv hlen hnd
  go_enter Try.func23, Try.ntmps23
  go_wp2_with (at_range; refine wpList_range_own _ rfl _ _ rfl 3 64 KI Try.underlying60 _ bm _ D rfl HO.out ?_; intro w0 hrg0 hg0 hs0)
  have HR0 := Aside0.mk hrg0
  have HB0 := Aside0.mk (HB.out.grown hg0 (Nat.le_refl _) (fun _ h => by cases h))
  have HS0 := Aside0.mk (show w.heap.size + 1 ≤ w0.heap.size by omega)
  clear hrg0 hg0 hs0
  go_frame
  go_loopw [3] (fun v3 wr => ∃ (xs : List Int) (left : Lit → Bool) (cnt : Nat), Aside0 (wr.ranges Try.prog 3 ptrE bm w.heap.size L.length D left cnt) ∧ Aside0 (Below w.heap.size w wr) ∧ Aside0 (w.heap.size + 1 ≤ wr.heap.size) ∧ Aside0 ((Kd.int .i64).R 3 wr (w.heap.size + 1) (fun _ => True) v3 xs) ∧ Aside0 (ICol (L.map (·.1)) left xs)) (fun _ wr => wr.rangeLeft bm w.heap.size)
  case atStart => exact ⟨[], _, _, HR0, HB0, HS0, ⟨Kd.R_nil _ _ _ _ _⟩, ⟨ICol.start HV.out⟩⟩
  case round =>
    clear HR0 HB0 HS0
    obtain ⟨xs, left, cnt, HR, HB, HSZ, HX, HM⟩ := hrel
    go_wp2_with (at_next; refine wpList_next_ranges _ rfl _ rfl 3 KI ptrE (Value.int .i64) pv inv_key inv_ptr bm w.heap.size _ _ _ _ rfl HR.out ?_ ?_)
    · intro _ hl0
      have HP := Aside0.mk (HM.out.done hl0)
      have HLN := Aside0.mk (show xs.length = L.length by have := HP.out.length_eq; rwa [List.length_map] at this)
      have HSK := Aside0.mk (sort_perm HP.out)
      have hkl : (sortI (L.map (·.1))).length = L.length := by unfold sortI; rw [List.length_mergeSort, List.length_map]
      rcases (Kd.own_of_R HX.out).2 with ⟨rfl, h0⟩ | ⟨g, cap, cur, rfl, hgb, hblk, hn1, hn2, hn3, ht⟩
      · have h00 : L.length = 0 := HLN.out.symm.trans h0
        have H00 := Aside0.mk h00
        have HKL := Aside0.mk hkl
        clear h00 h0 hkl
        go_wp2_with fail
        refine (sort_none none 0 _).mono ?_
        rintro e w2 ⟨rfl, rfl⟩
        go_wp2
        go_ret
        refine ⟨none, 0, by rw [H00.out]; rfl, ?_, HB.out⟩
        have e0 : sortI (L.map (·.1)) = [] := List.length_eq_zero_iff.1 (HKL.out.trans H00.out)
        rw [H00.out, e0]
        exact World.ownsRow_nil _ _ _ _
      have HKL := Aside0.mk hkl
      have HBL := Aside0.mk hblk
      have HH := Aside0.mk (holds_of_blockI hblk (show cur.toList.take xs.length = xs.map (Value.int .i64) by rw [Nat.mul_one] at ht; exact ht))
      have hlt : g < wr.heap.size := (Array.getElem?_eq_some_iff.1 hblk).1
      have HCS := Aside0.mk hn3
      have HCM := Aside0.mk hn2
      have hl24 := HL24.out
      have hln : xs.length ≤ 1000000 := by have := HLN.out; omega
      clear hblk ht hn3 hkl hn2
      go_wp2_with fail
      refine (sort_int g 0 cap xs _ HH.out hlt (by omega)).mono ?_
      rintro e w2 ⟨rfl, n, os, rfl⟩
      rw [HSK.out]
      go_wp2
      go_ret
      refine ⟨some ⟨g, 0, none⟩, cap, by rw [HLN.out]; rfl, ?_, HB.out.grown (grownBy_sortedI _) (below_size HB.out) (fun k hk => by injection hk with hk; omega)⟩
      have htk := take_putCellsI cur (sortI (L.map (·.1))) (by have := HCS.out; have := HLN.out; have := HKL.out; omega)
      refine ⟨by unfold cellsI; rw [List.length_map, HKL.out, Nat.mul_one], .inr ⟨g, cap, _, rfl, by omega, heap_sortedI _ HBL.out, by have := HLN.out; omega, HCM.out, by simp [putCells]; have := HCS.out; omega, ?_⟩⟩
      rw [Nat.mul_one, ← HKL.out]
      exact htk
    · intro x c kl y1 y2 w1 cnt1 hkey hlx hRc hat hrg1 hlt hg1 hs1 hen
      obtain rfl : kl = .int .i64 x := key_of hkey
      have HB1 := Aside0.mk (HB.out.grown hg1 (below_size HB.out) (fun j hj => by cases hj; exact Nat.le_refl _))
      have HR1 := Aside0.mk hrg1
      have HO1 := Aside0.mk (R_iter HX.out (Nat.lt_succ_self _) hg1)
      have HM1 := Aside0.mk (HM.out.step HND.out hlx)
      have HC := Aside0.mk (show cnt1 < cnt from hlt)
      have HSZ1 := Aside0.mk (show w.heap.size + 1 ≤ w1.heap.size by have := HSZ.out; omega)
      have HL := Aside0.mk (show xs.length ≤ 1000000 by
        obtain ⟨rest, hp, _⟩ := HM.out.ex
        have := hp.length_eq
        rw [List.length_append, List.length_map] at this
        have := HL24.out
        omega)
      have HBK := Aside0.mk (show ∀ j, u3.ownBlock = some j → w.heap.size + 1 ≤ j from fun j hj => (Kd.R_bound HO1.out).1 j hj |>.2.1)
      clear hrg1 hlt hg1 hkey hlx hRc hat hs1
      go_wp2_with (((with_reducible refine gate_builtin (b := .append) (xs := #[.tmp 11, .tmp 13]) rfl ?_); at_builtin; refine Kd.R_append (Kd.int .i64) (w0 := w1) (w.heap.size + 1) rfl (.tmp 11) (.tmp 13) 39 3 (.int .i64 0) 8 rfl Try.underlying39 infoInt rfl (by decide) (by omega) u3 xs x [.int .i64 x] (fun _ => True) (fun _ => False) rfl rfl ?aP (fun _ hk => hk.elim) (fun _ _ => trivial) ?aO ?aB ?aS ?aL ?_; (try (case aP => exact rfl)); (case aB => exact (Below.refl _ _)); (case aO => exact (by (with_reducible repeat (first | apply Kd.R_alloc | apply Kd.R_drewN | apply Kd.R_drew)); exact HO1.out)); (case aS => exact HSZ1.out); (case aL => have := HL.out; omega); intro v14 w19 ho_ hb hg hat; have n0_ := Aside0.mk (ho_); clear HO1; have HO1 := n0_; clear n0_; have HG9 := Aside0.mk hg; have HB9 := Aside0.mk (HB1.out.grown hg (below_size HB1.out) (fun j hj => by have := HBK.out j hj; omega)); clear ho_ hb hg hat))
      go_roundw
      case rel => exact ⟨xs ++ [x], _, cnt1, ⟨HR1.out.kept HG9.out (fun e => by have := HBK.out _ e.symm; omega) (fun e => by have := HBK.out _ e.symm; omega)⟩, HB9, ⟨Nat.le_trans HSZ1.out HG9.out.size⟩, HO1, HM1⟩
      case measure => rw [(HR1.out.kept HG9.out (fun e => by have := HBK.out _ e.symm; omega) (fun e => by have := HBK.out _ e.symm; omega)).left_eq, HR.out.left_eq]; exact HC.out

end Go.Proofs.Ytmnglonjekegcaa.Vw
