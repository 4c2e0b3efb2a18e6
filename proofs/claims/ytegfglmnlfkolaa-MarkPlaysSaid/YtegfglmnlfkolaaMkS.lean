/- slices.Sort at []int, off the shelf; the inputs. -/
import Derived.Shelf.Lay
import Derived.Shelf.Sort.Plain
import Derived.Ground.Names2Prog
import Derived.Sort.OwnSortedInts
import Derived.Test.YtegfglmnlfkolaaMkA
namespace Go.Proofs
open Go.Shelf
shelf_lay Lays.n189 Nm 189 at Try as Try.lays189
end Go.Proofs
namespace Go.Proofs.Ytegfglmnlfkolaa.Mk
open Go Go.RowKit Go.Maps Go.Sort Go.Proofs.YtegfglmnlfkolaaW.PrintWords Go.Proofs.YtegfglmnlfkolaaW.PrintLast Go.Proofs.YtegfglmnlfkolaaW.PrintMore
set_option linter.unusedVariables false
set_option linter.unusedSimpArgs false
theorem sort_int (blk off cap : Nat) (zs : List Int) (w : World) (hH : Holds (Value.int .i64) w blk off zs.toArray) (hblk : blk < w.heap.size) (hsz : zs.length < 4611686018427387904) :
    Calls Try.prog 19 #[.slice (some ⟨blk, off, none⟩) zs.length cap] w fun e w' => e = .returned (.tuple #[]) ∧ ∃ n os, w' = grow (putRow (Value.int .i64) (Sort.ahead w n) blk off (zs.mergeSort fun x y => decide (x ≤ y)).toArray) os :=
  Any.slices_Sort_int Try.lays189 blk off cap zs w hH hblk hsz
/-- The inputs that have come, whatever the order: with those to come they are all. -/
structure ICol (ks : List Int) (left : Lit → Bool) (xs : List Int) : Prop where
  ex : ∃ rest, (xs ++ rest).Perm ks ∧ ∀ k : Int, left (.int .i64 k) = true ↔ k ∈ rest
theorem ICol.start {D : DataW Unit} {L : List (Int × Int)} (hv : View D L) : ICol (L.map (·.1)) (Maps.has D) [] := by
  refine ⟨L.map (·.1), List.Perm.refl _, fun k => ?_⟩
  rw [hv.has]
  cases hl : lk L k with
  | none =>
    have := lk_none.1 hl
    simp only [Option.isSome_none, Bool.false_eq_true, false_iff, List.mem_map, not_exists, not_and]
    exact this
  | some t =>
    have := lk_mem hl
    simp only [Option.isSome_some, true_iff, List.mem_map]
    exact ⟨_, this, rfl⟩
theorem ICol.step {ks xs : List Int} {left : Lit → Bool} {x : Int} (h : ICol ks left xs) (hn : ks.Nodup) (hx : left (.int .i64 x) = true) : ICol ks (fun z => left z && !z.sameKey (.int .i64 x)) (xs ++ [x]) := by
  obtain ⟨rest, hp, hl⟩ := h.ex
  have hm := (hl x).1 hx
  have hr : rest.Nodup := ((List.nodup_append.1 (hp.nodup_iff.2 hn)).2.1)
  refine ⟨rest.erase x, ?_, fun k => ?_⟩
  · rw [List.append_assoc]
    exact (List.Perm.append_left xs (List.perm_cons_erase hm).symm).trans hp
  · rw [hr.mem_erase_iff, ← hl k]
    simp [Lit.sameKey, and_comm]
theorem ICol.done {ks xs : List Int} {left : Lit → Bool} (h : ICol ks left xs) (hl : ∀ k, left k = false) : xs.Perm ks := by
  obtain ⟨rest, hp, h2⟩ := h.ex
  have : rest = [] := by
    cases rest with
    | nil => rfl
    | cons a r => have := (h2 a).2 (by simp); rw [hl] at this; cases this
  rw [this, List.append_nil] at hp
  exact hp
theorem sort_keys {ks xs : List Int} (hs : ks.Pairwise (· < ·)) (hp : xs.Perm ks) : (xs.mergeSort fun x y => decide (x ≤ y)) = ks := by
  refine List.Perm.eq_of_pairwise (le := fun a b : Int => decide (a ≤ b) = true) (fun a b _ _ h1 h2 => by simp only [decide_eq_true_eq] at h1 h2; omega) (List.pairwise_mergeSort (fun a b c h1 h2 => by simp only [decide_eq_true_eq] at *; omega) (fun a b => by simp; omega) xs) (hs.imp (fun h => by simp; omega)) ((List.mergeSort_perm xs _).trans hp)
theorem R_iter {w w1 : World} {base r : Nat} {xs : List Int} {v : Value} (h : (Kd.int .i64).R 3 w base (fun _ => True) v xs) (hr : r < base) (hg : w.grownBy w1 (some r)) : (Kd.int .i64).R 3 w1 base (fun _ => True) v xs :=
  Kd.R_mono (Kd.R_grown (Kd.R_bound h) hg (fun k hk he => by injection he with he; have := hk.2.1; omega)) (fun _ _ => trivial)
theorem C_holds {w : World} {g n : Nat} {xs : List Int} (hl : xs.length = n) (hn : n ≤ 9223372036854775807) (h : Holds (Value.int .i64) w g 0 xs.toArray) : (Kd.int .i64).C w (some ⟨g, 0, none⟩) n xs := by
  refine ⟨hl, hn, fun _ => ⟨_, rfl, fun j p hj => ⟨[.int .i64 p], rfl, rfl, fun i u hu => ?_⟩⟩⟩
  have hi : i = 0 ∧ Value.int .i64 p = u := by
    cases i with
    | zero => simpa using hu
    | succ i => simp at hu
  obtain ⟨rfl, rfl⟩ := hi
  have hj2 := (List.getElem?_eq_some_iff.1 hj).1
  have h3 := (h j (by simpa using hj2)).1
  show World.cell? _ ((⟨g, 0, none⟩ : Addr).add (j * 1 + 0)) = _
  rw [Nat.mul_one, Nat.add_zero]
  have e2 : w.cell? ((⟨g, 0, none⟩ : Addr).add j) = w.cell? ⟨g, 0 + j, none⟩ := by
    unfold Addr.add
    split
    · rename_i e; rw [e]
    · rfl
  rw [e2, h3]
  rw [List.getElem?_eq_some_iff] at hj
  obtain ⟨_, hj⟩ := hj
  simp [← hj, hj2]
theorem infoInt : (Try.prog.info? 3).map (fun i => (i.zero, i.size, i.bytes)) = some (some (.int .i64 0), 1, 8) := by kernel_rfl
set_option maxHeartbeats 2000000 in
set_option maxRecDepth 100000 in
theorem inputs_any (b bm base : Nat) (L : List (Int × Int)) (w : World) (h : MkS w base b bm L) (hne : L ≠ []) :
    Calls Try.prog 18 #[.pointer (some ⟨b, 0, none⟩)] w fun e w' => ∃ A c, e = .returned (.slice A L.length c) ∧ L.length ≤ c ∧ (Kd.int .i64).C w' A L.length (L.map (·.1)) ∧ Below w.heap.size w w' := by
  obtain ⟨D, ho, hv⟩ := h.map
  have hcell : w.cell? ⟨b, 0, none⟩ = some (.map (some bm)) := by simp [World.cell?, h.cell]
  have HO := Aside0.mk ho
  have HV := Aside0.mk hv
  have HG := Aside0.mk h.good
  have HL24 := Aside0.mk h.len
  have HB := Aside0.mk (Below.refl w.heap.size w)
  have hbm : bm < w.heap.size := h.lt.2
  have HKS := Aside0.mk (show (L.map (·.1)).Pairwise (· < ·) from List.pairwise_map.2 h.good.rise)
  have HND := Aside0.mk (show (L.map (·.1)).Nodup from HKS.out.imp (fun h => by omega))
  clear ho hv h
  go_enter Try.func18, Try.ntmps18
  go_wp2_with (at_range; refine wpList_range_own _ rfl _ _ rfl 3 2 K3 Try.underlying50 _ bm _ D rfl HO.out ?_; intro w0 hrg0 hg0 hs0)
  have HR0 := Aside0.mk hrg0
  have HB0 := Aside0.mk (HB.out.grown hg0 (Nat.le_refl _) (fun _ h => by cases h))
  have HS0 := Aside0.mk (show w.heap.size + 1 ≤ w0.heap.size by omega)
  clear hrg0 hg0 hs0
  go_frame
  go_loopw [3] (fun v3 wr => ∃ (xs : List Int) (left : Lit → Bool) (cnt : Nat), Aside0 (wr.ranges Try.prog 3 (plainElem Try.prog 2) bm w.heap.size L.length D left cnt) ∧ Aside0 (Below w.heap.size w wr) ∧ Aside0 (w.heap.size + 1 ≤ wr.heap.size) ∧ Aside0 ((Kd.int .i64).R 3 wr (w.heap.size + 1) (fun _ => True) v3 xs) ∧ Aside0 (ICol (L.map (·.1)) left xs)) (fun _ wr => wr.rangeLeft bm w.heap.size)
  case atStart => exact ⟨[], _, _, HR0, HB0, HS0, ⟨Kd.R_nil _ _ _ _ _⟩, ⟨ICol.start HV.out⟩⟩
  case round =>
    clear HR0 HB0 HS0
    obtain ⟨xs, left, cnt, HR, HB, HSZ, HX, HM⟩ := hrel
    go_wp2_with (at_next; refine wpList_next_ranges_ii _ rfl _ rfl 3 2 .i64 .i64 K3 Try.underlying3 Try.underlying2 bm w.heap.size _ _ _ _ rfl HR.out ?_ ?_)
    · intro _ hl0
      have HP := Aside0.mk (HM.out.done hl0)
      have HLN := Aside0.mk (show xs.length = L.length by have := HP.out.length_eq; rwa [List.length_map] at this)
      have HSK := Aside0.mk (sort_keys HKS.out HP.out)
      rcases (Kd.own_of_R HX.out).2 with ⟨_, h0⟩ | ⟨g, cap, cur, rfl, hgb, hblk, hn1, hn2, hn3, ht⟩
      · exact absurd (List.length_eq_zero_iff.1 (HLN.out.symm.trans h0)) hne
      have HBL := Aside0.mk hblk
      have HH := Aside0.mk (holds_of_blockI hblk (show cur.toList.take xs.length = xs.map (Value.int .i64) by rw [Nat.mul_one] at ht; exact ht))
      have hlt : g < wr.heap.size := (Array.getElem?_eq_some_iff.1 hblk).1
      have HCS := Aside0.mk hn3
      have hl24 := HL24.out
      have hln : xs.length ≤ 24 := by have := HLN.out; omega
      clear hblk ht hn3
      go_wp2_with fail
      refine (sort_int g 0 cap xs _ HH.out hlt (by omega)).mono ?_
      rintro e w2 ⟨rfl, n, os, rfl⟩
      rw [HSK.out]
      go_wp2
      go_ret
      refine ⟨some ⟨g, 0, none⟩, cap, by rw [HLN.out]; rfl, by have := HLN.out; omega, ?_, HB.out.grown (grownBy_sortedI _) (below_size HB.out) (fun k hk => by injection hk with hk; omega)⟩
      have hkl : (L.map (·.1)).length = L.length := List.length_map _
      refine C_holds hkl (by omega) ?_
      exact holds_of_blockI (heap_sortedI _ HBL.out) (take_putCellsI cur (L.map (·.1)) (by have := HCS.out; have := HLN.out; omega))
    · intro x c w1 cnt1 hwx hwc hlx hat hrg1 hlt hg1 hs1 hen
      have HB1 := Aside0.mk (HB.out.grown hg1 (below_size HB.out) (fun j hj => by cases hj; exact Nat.le_refl _))
      have HR1 := Aside0.mk hrg1
      have HO1 := Aside0.mk (R_iter HX.out (Nat.lt_succ_self _) hg1)
      have HM1 := Aside0.mk (HM.out.step HND.out hlx)
      have HC := Aside0.mk (show cnt1 < cnt from hlt)
      have HSZ1 := Aside0.mk (show w.heap.size + 1 ≤ w1.heap.size by have := HSZ.out; omega)
      have HL := Aside0.mk (show xs.length ≤ 24 by
        obtain ⟨rest, hp, _⟩ := HM.out.ex
        have := hp.length_eq
        rw [List.length_append, List.length_map] at this
        have := HL24.out
        omega)
      have HBK := Aside0.mk (show ∀ j, u3.ownBlock = some j → w.heap.size + 1 ≤ j from fun j hj => (Kd.R_bound HO1.out).1 j hj |>.2.1)
      clear hrg1 hlt hg1 hwx hwc hlx hat hs1
      go_wp2_with (((with_reducible refine gate_builtin (b := .append) (xs := #[.tmp 16, .tmp 18]) rfl ?_); at_builtin; refine Kd.R_append (Kd.int .i64) (w0 := w1) (w.heap.size + 1) rfl (.tmp 16) (.tmp 18) 24 3 (.int .i64 0) 8 rfl Try.underlying24 infoInt rfl (by decide) (by omega) u3 xs x [.int .i64 x] (fun _ => True) (fun _ => False) rfl rfl ?aP (fun _ hk => hk.elim) (fun _ _ => trivial) ?aO ?aB ?aS ?aL ?_; (try (case aP => exact rfl)); (case aB => exact (Below.refl _ _)); (case aO => exact (by (with_reducible repeat (first | apply Kd.R_alloc | apply Kd.R_drewN | apply Kd.R_drew)); exact HO1.out)); (case aS => exact HSZ1.out); (case aL => have := HL.out; omega); intro v19 w19 ho_ hb hg hat; have n0_ := Aside0.mk (ho_); clear HO1; have HO1 := n0_; clear n0_; have HG9 := Aside0.mk hg; have HB9 := Aside0.mk (HB1.out.grown hg (below_size HB1.out) (fun j hj => by have := HBK.out j hj; omega)); clear ho_ hb hg hat))
      go_roundw
      case rel => exact ⟨xs ++ [x], _, cnt1, ⟨HR1.out.kept HG9.out (fun e => by have := HBK.out _ e.symm; omega) (fun e => by have := HBK.out _ e.symm; omega)⟩, HB9, ⟨Nat.le_trans HSZ1.out HG9.out.size⟩, HO1, HM1⟩
      case measure => rw [(HR1.out.kept HG9.out (fun e => by have := HBK.out _ e.symm; omega) (fun e => by have := HBK.out _ e.symm; omega)).left_eq, HR.out.left_eq]; exact HC.out
end Go.Proofs.Ytegfglmnlfkolaa.Mk
