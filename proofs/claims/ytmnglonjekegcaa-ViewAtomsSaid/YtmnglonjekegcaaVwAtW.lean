/- (c11) ViewAtoms' body. -/
import Derived.Test.YtmnglonjekegcaaVwOld
import Derived.Test.YtmnglonjekegcaaVwAtP
import Derived.Test.YtmnglonjekegcaaSto
namespace Go.Proofs.Ytmnglonjekegcaa.Vw
open Go Go.RowKit Go.Maps Go.Proofs.Ytmnglonjekegcaa.Mk Go.Proofs.Ytmnglonjekegcaa.Rp Go.Proofs.YtmnglonjekegcaaW.PrintWords Go.Proofs.YtmnglonjekegcaaW.PrintLast Go.Proofs.YtmnglonjekegcaaW.PrintMore Go.Proofs.Ytmnglonjekegcaa.Rw Go.Proofs.Ytmnglonjekegcaa.Ow Go.Proofs.Ytmnglonjekegcaa.Mono
set_option linter.unusedVariables false
set_option linter.unusedSimpArgs false
set_option maxRecDepth 100000
theorem field_task (a b c o : Int) (B1 B2 : Option Addr) (m1 d1 m2 d2 : Nat) (w : World) : (Instr.field 41 (.agg #[.int .i64 a, .int .i64 b, .int .i64 c, .slice B1 m1 d1, .slice B2 m2 d2, .int .i64 o]) 5).run Try.prog w = .ok (.int .i64 o) w ∧ (Instr.field 41 (.agg #[.int .i64 a, .int .i64 b, .int .i64 c, .slice B1 m1 d1, .slice B2 m2 d2, .int .i64 o]) 2).run Try.prog w = .ok (.int .i64 c) w := ⟨by rfl, by rfl⟩
/-- A record whose time may be. -/
def okS (r : S45) : S45 := if r.f2 < 0 ∨ 1099511627776 < r.f2 then { r with f2 := 0 } else r
theorem okS_ok (r : S45) : 0 ≤ (okS r).f2 ∧ (okS r).f2 ≤ 1099511627776 := by
  unfold okS
  split
  · exact ⟨by show (0 : Int) ≤ 0; omega, by show (0 : Int) ≤ 1099511627776; omega⟩
  · omega
theorem at_u8 {w : World} {A : Option Addr} {n : Nat} {xs : List Int} (h : Kd.C (Kd.int .u8) w A n xs) {i : Nat} {a : Int} (hi : xs[i]? = some a) : ∃ ad, A = some ad ∧ w.cell? (ad.add i) = some (.int .u8 a) := by
  have hl := (List.getElem?_eq_some_iff.1 hi).1
  obtain ⟨h1, _, h2⟩ := h
  obtain ⟨ad, hA, he⟩ := h2 (by omega)
  obtain ⟨c, hc, hK, hcell⟩ := he i a hi
  refine ⟨ad, hA, ?_⟩
  obtain rfl : c = [.int .u8 a] := hK
  have h3 : w.cell? (ad.add (i * 1 + 0)) = some (.int .u8 a) := hcell 0 _ rfl
  rwa [Nat.mul_one, Nat.add_zero] at h3
def datE (k j : Int) (r : S45) : S47 := ⟨2, k, 0, 0, j, r, false, [], []⟩
theorem tasks_few (l : List S47) (hl : l.length ≤ 300) : (readV l).f1.length ≤ 1000000 := by
  have e := congrArg List.length (told_keysT l)
  rw [List.length_map] at e
  unfold sortI at e
  rw [List.length_mergeSort, List.length_map] at e
  have := (StInv.through l).tl
  omega
theorem logs_few (l : List S47) (hl : l.length ≤ 300) : (readV l).f0.length ≤ 1000000 := by
  have e := congrArg List.length (told_keys l)
  rw [List.length_map] at e
  unfold sortI at e
  rw [List.length_mergeSort, List.length_map] at e
  have h1 := (StInv.through l).bl.1
  have h2 := Nat.mul_le_mul hl hl
  omega
set_option maxHeartbeats 4000000 in
theorem atoms_ok (A A' : Option Addr) (n c n' c' : Nat) (rs : List S45) (ls : List Int) (k : Int) (q0 : Bool) (w : World) (hC : Kd.C k45 w A n rs) (hnc : n ≤ c) (hL : Kd.C (Kd.int .u8) w A' n' ls) (hnc' : n' ≤ c') (hU : ∀ a ∈ ls, 0 ≤ a ∧ a ≤ 255) (hk0 : 0 ≤ k) (hk1 : k ≤ 255) : Calls Try.prog 6 #[.slice A n c, .slice A' n' c', .int .u8 k, .bool q0] w fun e w' => e = .returned (.bool true) ∧ Below w.heap.size w w' := by
  have HC0 := Aside0.mk hC
  have HL0 := Aside0.mk hL
  have HU := Aside0.mk hU
  have HKB := Aside0.mk (And.intro hk0 hk1)
  have HWK : Aside0 (wrap64 k = k) := ⟨by unfold wrap64; omega⟩
  clear hC hL hU
  go_enter Try.func6, Try.ntmps6
  go_wp2_with fail
  refine (shown_ok w).mono ?_
  rintro e_ w1 ⟨rfl, hb_⟩
  have HC := Aside0.mk (Kd.C_below HC0.out hb_)
  have HL := Aside0.mk (Kd.C_below HL0.out hb_)
  have HBW := Aside0.mk hb_
  clear hb_ HC0 HL0
  go_upto_block 0 with (fail)
  go_cut [10] (fun v_ wc => ∃ (m : Nat) (A5 : Option Addr) (c5 : Nat) (xs : List S47), v_ = .slice A5 m c5 ∧ m ≤ 50 ∧ Aside0 (xs.length = m) ∧ Aside0 (EO w1 w1.heap.size wc (.slice A5 m c5) xs) ∧ Aside0 (∀ x ∈ xs, DatE k x ∧ 0 ≤ x.f4 ∧ x.f4 ≤ 4) ∧ Aside0 (Below w1.heap.size w1 wc))
  case first =>
    go_wp2_with fail
    go_loopw [10, 11] (fun v_ vi wr => ∃ (i m : Nat) (A5 : Option Addr) (c5 : Nat) (xs : List S47), i ≤ n ∧ i ≤ 50 ∧ vi = .int .i64 (i : Int) ∧ v_ = .slice A5 m c5 ∧ m ≤ i ∧ Aside0 (xs.length = m) ∧ Aside0 (EO w1 w1.heap.size wr (.slice A5 m c5) xs) ∧ Aside0 (∀ x ∈ xs, DatE k x ∧ 0 ≤ x.f4 ∧ x.f4 ≤ 4) ∧ Aside0 (Below w1.heap.size w1 wr)) (fun _ vi _ => 50 - (intOf vi).toNat)
    case atStart => exact ⟨0, 0, none, 0, [], Nat.zero_le _, Nat.zero_le _, rfl, rfl, Nat.le_refl _, ⟨rfl⟩, ⟨EO.nil _ _ _⟩, ⟨by simp⟩, ⟨Below.refl _ _⟩⟩
    case round =>
      obtain ⟨i, m, A5, c5, xs, hi, hi2, rfl, rfl, hm, HXL, HEO, HP, HB2⟩ := hrel
      by_cases hlt : i < n
      · have h1 : decide ((i : Int) < (n : Int)) = true := by simp; omega
        have h1b : decide (i < n) = true := by simp; omega
        by_cases hl1 : i < n'
        · have h3 : decide ((i : Int) < (n' : Int)) = true := by simp; omega
          have h3b : decide (i < n') = true := by simp; omega
          by_cases hl2 : i < 50
          · have h2 : decide ((i : Int) < 50) = true := by simp; omega
            have h2b : decide (i < 50) = true := by simp; omega
            obtain ⟨x, hx⟩ : ∃ x, rs[i]? = some x := ⟨_, List.getElem?_eq_getElem (by rw [HC.out.1]; exact hlt)⟩
            obtain ⟨ad, rfl, hcells⟩ := at_T45 HC.out (i : Int) (Int.natCast_nonneg _) (Int.ofNat_lt.2 hlt)
            rw [show rd_T45 rs (i : Int) = x by unfold rd_T45; rw [Int.toNat_natCast, List.getD_eq_getElem?_getD, hx]; rfl] at hcells
            rw [Int.toNat_natCast] at hcells
            have HX0 := Aside0.mk hcells
            clear hx hcells
            obtain ⟨a, ha⟩ : ∃ a, ls[i]? = some a := ⟨_, List.getElem?_eq_getElem (by rw [HL.out.1]; exact hl1)⟩
            obtain ⟨ad2, rfl, a_⟩ := at_u8 HL.out ha
            have hab := HU.out a (List.mem_of_getElem? ha)
            have HA := Aside0.mk a_
            clear ha a_
            obtain ⟨j, HJ⟩ : ∃ j : Nat, Aside0 (wrap64 (a.tmod 5) = (j : Int)) := ⟨(a % 5).toNat, ⟨by rw [Int.tmod_eq_emod_of_nonneg (by omega)]; unfold wrap64; omega⟩⟩
            have hj4 : j ≤ 4 := by have h := HJ.out; rw [Int.tmod_eq_emod_of_nonneg (by omega)] at h; unfold wrap64 at h; omega
            go_upto_region 6 with fail
            refine start_ (n := 15) (S := fun w' => Below wr.heap.size wr w') (ds := [14]) #[false, false, false, false, false, false, false, false, false, false, false, false, false, false, false] (by kernel_rfl) rfl rfl (below_drew (Below.refl _ _)) (fun hHeld => ?_)
            refine pure_ (i := 0) (N := some 40) (v := ?_) (a' := ?_) #[true, false, false, false, false, false, false, false, false, false, false, false, false, false, false] rfl rfl (by kernel_rfl) (fun _ _ _ h => h) (Or.inl ⟨by rfl, ?_⟩) ?_ ?_
            rotate_left
            · intro w'
              go_simp
              with_reducible rfl
            rotate_left
            · simp only [Act.put, List.setIfInBounds_toArray, List.set_cons_zero, List.set_cons_succ, i64_w, i32_w]
              rfl
            refine pure_ (i := 1) (N := some 41) (v := ?_) (a' := ?_) #[true, true, false, false, false, false, false, false, false, false, false, false, false, false, false] rfl rfl (by kernel_rfl) (fun _ _ _ h => h) (Or.inl ⟨by rfl, ?_⟩) ?_ ?_
            rotate_left
            · intro w'
              go_simp
              with_reducible rfl
            rotate_left
            · simp only [Act.put, List.setIfInBounds_toArray, List.set_cons_zero, List.set_cons_succ, i64_w, i32_w]
              rfl
            refine pure_ (i := 2) (N := some 42) (v := ?_) (a' := ?_) #[true, true, true, false, false, false, false, false, false, false, false, false, false, false, false] rfl rfl (by kernel_rfl) (fun _ _ _ h => h) (Or.inl ⟨by rfl, ?_⟩) ?_ ?_
            rotate_left
            · intro w'
              go_simp
              with_reducible rfl
            rotate_left
            · simp only [Act.put, List.setIfInBounds_toArray, List.set_cons_zero, List.set_cons_succ, i64_w, i32_w]
              rfl
            refine pure_ (i := 3) (N := some 43) (v := ?_) (a' := ?_) #[true, true, true, true, false, false, false, false, false, false, false, false, false, false, false] rfl rfl (by kernel_rfl) (fun _ _ _ h => h) (Or.inl ⟨by rfl, ?_⟩) ?_ ?_
            rotate_left
            · intro w'
              go_simp
              with_reducible rfl
            rotate_left
            · simp only [Act.put, List.setIfInBounds_toArray, List.set_cons_zero, List.set_cons_succ, i64_w, i32_w]
              rfl
            refine pure_ (i := 4) (N := some 44) (v := ?_) (a' := ?_) #[true, true, true, true, true, false, false, false, false, false, false, false, false, false, false] rfl rfl (by kernel_rfl) (fun _ _ _ h => h) (Or.inl ⟨by rfl, ?_⟩) ?_ ?_
            rotate_left
            · intro w'
              go_simp
              with_reducible rfl
            rotate_left
            · simp only [Act.put, List.setIfInBounds_toArray, List.set_cons_zero, List.set_cons_succ, i64_w, i32_w]
              rfl
            refine pure_ (i := 8) (N := some 48) (v := ?_) (a' := ?_) #[true, true, true, true, true, false, false, false, true, false, false, false, false, false, false] rfl rfl (by kernel_rfl) (fun _ _ _ h => h) (Or.inl ⟨by rfl, ?_⟩) ?_ ?_
            rotate_left
            · intro w'
              go_simp
              with_reducible rfl
            rotate_left
            · simp only [Act.put, List.setIfInBounds_toArray, List.set_cons_zero, List.set_cons_succ, i64_w, i32_w]
              rfl
            refine pure_ (i := 9) (N := some 49) (v := ?_) (a' := ?_) #[true, true, true, true, true, false, false, false, true, true, false, false, false, false, false] rfl rfl (by kernel_rfl) (fun _ _ _ h => h) (Or.inl ⟨by rfl, ?_⟩) ?_ ?_
            rotate_left
            · intro w'
              go_simp
              with_reducible rfl
            rotate_left
            · simp only [Act.put, List.setIfInBounds_toArray, List.set_cons_zero, List.set_cons_succ, i64_w, i32_w]
              rfl
            refine pure_ (i := 10) (N := some 50) (v := ?_) (a' := ?_) #[true, true, true, true, true, false, false, false, true, true, true, false, false, false, false] rfl rfl (by kernel_rfl) (fun _ _ _ h => h) (Or.inl ⟨by rfl, ?_⟩) ?_ ?_
            rotate_left
            · intro w'
              go_simp
              with_reducible rfl
            rotate_left
            · simp only [Act.put, List.setIfInBounds_toArray, List.set_cons_zero, List.set_cons_succ, i64_w, i32_w]
              rfl
            refine take_ (i := 5) (N := some 45) (v := ?_) (a' := ?_) #[true, true, true, true, true, true, false, false, true, true, true, false, false, false, false] rfl rfl (by kernel_rfl) (fun _ _ _ h => h) (Or.inl ⟨by rfl, ?_⟩) hHeld ?_ ?_
            rotate_left
            · intro w' hS
              have c_ := pw_cell_below (below_on HB2.out HB2.out.size hS) HA.out
              go_simp
              with_reducible rfl
            rotate_left
            · simp only [Act.put, List.setIfInBounds_toArray, List.set_cons_zero, List.set_cons_succ, i64_w, i32_w]
              rfl
            refine pure_ (i := 6) (N := some 46) (v := ?_) (a' := ?_) #[true, true, true, true, true, true, true, false, true, true, true, false, false, false, false] rfl rfl (by kernel_rfl) (fun _ _ _ h => h) (Or.inl ⟨by rfl, ?_⟩) ?_ ?_
            rotate_left
            · intro w'
              go_simp
              with_reducible rfl
            rotate_left
            · simp only [Act.put, List.setIfInBounds_toArray, List.set_cons_zero, List.set_cons_succ, i64_w, i32_w]
              rfl
            refine pure_ (i := 7) (N := some 47) (v := ?_) (a' := ?_) #[true, true, true, true, true, true, true, true, true, true, true, false, false, false, false] rfl rfl (by kernel_rfl) (fun _ _ _ h => h) (Or.inl ⟨by rfl, ?_⟩) ?_ ?_
            rotate_left
            · intro w'
              go_simp
              with_reducible rfl
            rotate_left
            · simp only [Act.put, List.setIfInBounds_toArray, List.set_cons_zero, List.set_cons_succ, i64_w, i32_w]
              rfl
            refine take_ (i := 11) (N := some 51) (v := ?_) (a' := ?_) #[true, true, true, true, true, true, true, true, true, true, true, true, false, false, false] rfl rfl (by kernel_rfl) (fun _ _ _ h => h) (Or.inl ⟨by rfl, ?_⟩) hHeld ?_ ?_
            rotate_left
            · intro w' hS
              have x0_ := pw_cell_below (below_on HB2.out HB2.out.size hS) HX0.out.1
              have x1_ := pw_cell_below (below_on HB2.out HB2.out.size hS) HX0.out.2.1
              have x2_ := pw_cell_below (below_on HB2.out HB2.out.size hS) HX0.out.2.2
              go_simp
              with_reducible rfl
            rotate_left
            · simp only [Act.put, List.setIfInBounds_toArray, List.set_cons_zero, List.set_cons_succ, i64_w, i32_w]
              rfl
            refine pure_ (i := 12) (N := some 52) (v := ?_) (a' := ?_) #[true, true, true, true, true, true, true, true, true, true, true, true, true, false, false] rfl rfl (by kernel_rfl) (fun _ _ _ h => h) (Or.inl ⟨by rfl, ?_⟩) ?_ ?_
            rotate_left
            · intro w'
              go_simp
              with_reducible rfl
            rotate_left
            · simp only [Act.put, List.setIfInBounds_toArray, List.set_cons_zero, List.set_cons_succ, i64_w, i32_w]
              rfl
            refine one_ (i := 13) (N := some 12) #[true, true, true, true, true, true, true, true, true, true, true, true, true, true, false] rfl rfl (by kernel_rfl) (by simp) (fun K hK => ?_)
            refine value_ (w1 := wr.drew.alloc (.cells #[.int .i64 0, .int .i64 0, .int .i64 0, .int .i64 0, .int .i64 0, .int .i64 0, .int .i64 0, .int .i64 0, .bool false, .slice none 0 0, .slice none 0 0] 47)) (v := .pointer (some ⟨wr.drew.heap.size, 0, none⟩)) (by rfl) rfl (by first | (go_simp; done) | (go_simp; rfl)) ?_
            have hb_ := below_alloc (Below.refl wr.drew.heap.size wr.drew) (.cells #[.int .i64 0, .int .i64 0, .int .i64 0, .int .i64 0, .int .i64 0, .int .i64 0, .int .i64 0, .int .i64 0, .bool false, .slice none 0 0, .slice none 0 0] 47)
            replace hb_ := below_step hHeld hb_
            refine hK.out _ _ hb_ (fun _ => ?_)
            clear hK K
            refine norm_ (a' := ?_) ?_ ?_
            rotate_left
            · show Act.put _ (some 12) _ = _
              simp only [Act.put, List.setIfInBounds_toArray, List.set_cons_zero, List.set_cons_succ, i64_w, i32_w]
              rfl
            have HX := Aside0.mk (heap_alloc_new wr.drew (.cells #[.int .i64 0, .int .i64 0, .int .i64 0, .int .i64 0, .int .i64 0, .int .i64 0, .int .i64 0, .int .i64 0, .bool false, .slice none 0 0, .slice none 0 0] 47))
            have hge_ : wr.heap.size ≤ wr.drew.heap.size := hHeld.size
            replace hHeld := hb_
            generalize wr.drew.alloc (.cells #[.int .i64 0, .int .i64 0, .int .i64 0, .int .i64 0, .int .i64 0, .int .i64 0, .int .i64 0, .int .i64 0, .bool false, .slice none 0 0, .slice none 0 0] 47) = w9 at HX hHeld hb_ ⊢
            have HGE := Aside0.mk hge_
            clear hge_
            obtain ⟨gx, HGX⟩ : ∃ g, Aside0 (wr.drew.heap.size = g) := ⟨_, ⟨rfl⟩⟩
            rw [HGX.out] at HX HGE ⊢
            clear hb_
            refine last_ (i := 14) (N := none) #[true, true, true, true, true, true, true, true, true, true, true, true, true, true, true] rfl rfl (by kernel_rfl) (by simp) (fun K hK => ?_)
            obtain ⟨w10, hst_, hblk_, hgr_⟩ := Sto.store_row (P := Try.prog) (ty := 47) (vs := #[.int .i64 2, .int .i64 (wrap64 k), .int .i64 0, .int .i64 0, .int .i64 (wrap64 (a.tmod 5)), .int .i64 x.f0, .int .i64 x.f1, .int .i64 x.f2, .bool false, .slice none 0 0, .slice none 0 0]) HX.out (by kernel_rfl) rfl rfl
            have hbl_ := hHeld.grown hgr_ hHeld.size (fun k hk => by injection hk with hk; rw [← hk]; exact HGE.out)
            replace HX := Aside0.mk hblk_
            have HBR := Aside0.mk hbl_
            refine skip_ (w1 := w10) (by rfl) rfl (Sto.store_exec 47 (.tmp 12) (.tmp 52) rfl gx _ rfl rfl hst_) ?_
            clear hst_ hblk_ hgr_ hbl_ hHeld
            refine hK.out _ _ ?_
            clear hK K
            refine done_ (by kernel_rfl) ?_

            rw [HWK.out, HJ.out] at HX
            obtain ⟨q, HQ⟩ : ∃ q, Aside0 ((decide (x.f2 < 0) || decide (x.f2 > 1099511627776)) = q) := ⟨_, ⟨rfl⟩⟩
            go_upto_region 7 with fail
            go_cut [62] (fun vx wc => vx = .bool q ∧ wc = w10)
            case first =>
              have b7_ := (blk_cell HX.out 7).trans (rfl : _ = some (.int .i64 x.f2 : Value))
              by_cases ht1 : x.f2 < 0
              · have d1_ : decide (x.f2 < 0) = true := by simpa using ht1
                have HO : Aside0 (q = true) := ⟨by rw [← HQ.out, d1_]; rfl⟩
                clear ht1
                go_wp2_with fail
                go_meet
                case rel => exact ⟨by rw [HO.out], rfl⟩
              · have d1_ : decide (x.f2 < 0) = false := by simpa using ht1
                obtain ⟨q2, hq2⟩ : ∃ q2, decide (x.f2 > 1099511627776) = q2 := ⟨_, rfl⟩
                have hq3 : decide (1099511627776 < x.f2) = q2 := hq2
                have HO : Aside0 (q = q2) := ⟨by rw [← HQ.out, d1_, hq2]; rfl⟩
                clear ht1
                go_wp2_with fail
                go_meet
                case rel => exact ⟨by rw [HO.out], rfl⟩
            case rest =>
            obtain ⟨rfl, rfl⟩ := hcut
            rename World => wa
            go_upto_if 62 with (fail)
            go_cut [12] (fun vx wc => vx = .pointer (some ⟨gx, 0, none⟩) ∧ Aside0 (wc.heap[gx]? = some (.cells #[.int .i64 2, .int .i64 k, .int .i64 0, .int .i64 0, .int .i64 (j : Int), .int .i64 (okS x).f0, .int .i64 (okS x).f1, .int .i64 (okS x).f2, .bool false, .slice none 0 0, .slice none 0 0] 47 (0, 0))) ∧ Aside0 (Below wr.heap.size wr wc))
            case first =>
              have f7_ := blk_frozen HX.out 7
              have b7_ := (blk_cell HX.out 7).trans (rfl : _ = some (.int .i64 x.f2 : Value))
              cases q with
              | true =>
                have HO : Aside0 (okS x = { x with f2 := 0 }) := ⟨if_pos (by have := HQ.out; simpa using this)⟩
                go_wp2_with fail
                go_meet
                case rel => rw [HO.out]; exact ⟨rfl, ⟨blk_put HX.out 7 (.int .i64 0) (rfl : _ = (#[.int .i64 2, .int .i64 k, .int .i64 0, .int .i64 0, .int .i64 (j : Int), .int .i64 x.f0, .int .i64 x.f1, .int .i64 0, .bool false, .slice none 0 0, .slice none 0 0] : Array Value))⟩, ⟨HBR.out.setCell (p := ⟨gx, 7, none⟩) HGE.out _⟩⟩
              | false =>
                have HO : Aside0 (okS x = x) := ⟨if_neg (by have := HQ.out; simpa using this)⟩
                go_wp2_with fail
                go_meet
                case rel => rw [HO.out]; exact ⟨rfl, HX, HBR⟩
            case rest =>
              obtain ⟨rfl, HX, HBR⟩ := hcut
              rename World => wb
              obtain ⟨r, HRX⟩ : ∃ r, Aside0 (okS x = r) := ⟨_, ⟨rfl⟩⟩
              have HRT : Aside0 (0 ≤ r.f2 ∧ r.f2 ≤ 1099511627776) := ⟨by rw [← HRX.out]; exact okS_ok x⟩
              rw [HRX.out] at HX
              have b0_ := (blk_cell (HX.out) 0).trans (rfl : _ = some (.int .i64 2 : Value))
              have b1_ := (blk_cell (HX.out) 1).trans (rfl : _ = some (.int .i64 k : Value))
              have b2_ := (blk_cell (HX.out) 2).trans (rfl : _ = some (.int .i64 0 : Value))
              have b3_ := (blk_cell (HX.out) 3).trans (rfl : _ = some (.int .i64 0 : Value))
              have b4_ := (blk_cell (HX.out) 4).trans (rfl : _ = some (.int .i64 (j : Int) : Value))
              have b5_ := (blk_cell (HX.out) 5).trans (rfl : _ = some (.int .i64 r.f0 : Value))
              have b6_ := (blk_cell (HX.out) 6).trans (rfl : _ = some (.int .i64 r.f1 : Value))
              have b7_ := (blk_cell (HX.out) 7).trans (rfl : _ = some (.int .i64 r.f2 : Value))
              have b8_ := (blk_cell (HX.out) 8).trans (rfl : _ = some (.bool false : Value))
              have b9_ := (blk_cell (HX.out) 9).trans (rfl : _ = some (.slice none 0 0 : Value))
              have b10_ := (blk_cell (HX.out) 10).trans (rfl : _ = some (.slice none 0 0 : Value))
              obtain ⟨v_, wd, hr_, he_, hg_, hat_, hbs_, hbb_, A6, c6, rfl⟩ := HEO.out.app1 HB2.out HB2.out.size (datE k (j : Int) r) none none 0 0 (C_nil w1) (Nat.le_refl 0) (C_nil w1) (Nat.le_refl 0) (below_alloc HBR.out (.cells #[.int .i64 2, .int .i64 k, .int .i64 0, .int .i64 0, .int .i64 (j : Int), .int .i64 r.f0, .int .i64 r.f1, .int .i64 r.f2, .bool false, .slice none 0 0, .slice none 0 0] 47)) (heap_alloc_new wb (.cells #[.int .i64 2, .int .i64 k, .int .i64 0, .int .i64 0, .int .i64 (j : Int), .int .i64 r.f0, .int .i64 r.f1, .int .i64 r.f2, .bool false, .slice none 0 0, .slice none 0 0] 47)) (by rw [HXL.out]; omega) 22 rfl
              rw [HXL.out] at hr_ he_
              have HR := Aside0.mk hr_
              have HEO2 := Aside0.mk he_
              have HB3 := Aside0.mk (hbb_ _ w1 (Nat.le_refl _) HB2.out)
              clear hr_ he_ hg_ hat_ hbs_ hbb_
              go_wp2_with (at_builtin; refine wpList_append_eq _ rfl (.tmp 65) (.tmp 67) 22 22 rfl _ _ rfl rfl HR.out ?_)
              go_roundw
              case rel => exact ⟨i + 1, m + 1, A6, c6, _, by omega, by omega, by go_num, rfl, by omega, ⟨by rw [List.length_append, HXL.out]; rfl⟩, HEO2, ⟨fun z hz => (List.mem_append.1 hz).elim (HP.out z) fun hz => by rw [List.mem_singleton] at hz; subst hz; exact ⟨⟨may_data HKB.out ⟨by omega, by omega⟩ HRT.out, rfl, rfl, rfl, rfl⟩, Int.natCast_nonneg _, by show (j : Int) ≤ 4; omega⟩⟩, HB3⟩
              case measure => simp [intOf]; omega
          · have h2 : decide ((i : Int) < 50) = false := by simp; omega
            have h2b : decide (i < 50) = false := by simp; omega
            go_wp2_with fail
            go_meet
            case rel => exact ⟨m, A5, c5, xs, rfl, by omega, HXL, HEO, HP, HB2⟩
        · have h3 : decide ((i : Int) < (n' : Int)) = false := by simp; omega
          have h3b : decide (i < n') = false := by simp; omega
          go_wp2_with fail
          go_meet
          case rel => exact ⟨m, A5, c5, xs, rfl, by omega, HXL, HEO, HP, HB2⟩
      · have h1 : decide ((i : Int) < (n : Int)) = false := by simp; omega
        have h1b : decide (i < n) = false := by simp; omega
        go_wp2_with fail
        go_meet
        case rel => exact ⟨m, A5, c5, xs, rfl, by omega, HXL, HEO, HP, HB2⟩
  case rest =>
  obtain ⟨m, A5, c5, xs, rfl, hm, HXL, HEO, HP, HB2⟩ := hcut
  rename World => w2
  obtain ⟨B1, d1, e_, hd1, _, hbc⟩ := HEO.out.C HB2.out
  rw [HXL.out] at e_ hd1 hbc
  obtain ⟨rfl, rfl⟩ : A5 = B1 ∧ c5 = d1 := by injection e_ with e1 _ e2; exact ⟨e1, e2⟩
  have HD : Aside0 (∀ x ∈ xs, DatE k x) := ⟨fun x hx => (HP.out x hx).1⟩
  clear e_ HC HL HU
  go_wp2_with fail
  refine (read_ok A5 m c5 xs w2 hbc (by omega) hd1).mono ?_
  rintro e_ w4 ⟨C1, e1, C2, e2, rfl, hb_, q1_, g1_, q2_, g2_⟩
  rw [HXL.out]
  rw [at_logs HD.out] at q1_ g1_ ⊢
  simp only [List.length_nil] at q1_ g1_ ⊢
  obtain ⟨T1, HTT⟩ : ∃ x, Aside0 ((readV xs).f1 = x) := ⟨_, ⟨rfl⟩⟩
  rw [HTT.out] at q2_ g2_ ⊢
  obtain ⟨p2, HP2⟩ : ∃ x, Aside0 (T1.length = x) := ⟨_, ⟨rfl⟩⟩
  have HPB : Aside0 (T1.length ≤ 1000000) := ⟨by rw [← HTT.out]; exact tasks_few xs (by rw [HXL.out]; omega)⟩
  rw [HP2.out] at q2_ g2_ HPB ⊢
  have HG2 := Aside0.mk (And.intro g2_ q2_)
  replace HEO := Aside0.mk (HEO.out.below hb_)
  have HXC := Aside0.mk (And.intro hd1 (Kd.C_below hbc hb_))
  replace HB2 := Aside0.mk (below_on HB2.out HB2.out.size hb_)
  clear hb_ q1_ g1_ q2_ g2_ hbc hd1
  go_upto_region 11 with fail
  have HOA := Aside0.mk (heap_alloc_new w4 (.cells #[.slice C1 0 e1, .slice C2 p2 e2, .int .i64 (m : Int)] 29))
  have hb_ := below_alloc (Below.refl w4.heap.size w4) (.cells #[.slice C1 0 e1, .slice C2 p2 e2, .int .i64 (m : Int)] 29)
  have hs_ : (w4.alloc (.cells #[.slice C1 0 e1, .slice C2 p2 e2, .int .i64 (m : Int)] 29)).heap.size = w4.heap.size + 1 := by simp
  generalize w4.alloc (.cells #[.slice C1 0 e1, .slice C2 p2 e2, .int .i64 (m : Int)] 29) = w5 at HOA hb_ hs_ ⊢
  replace HG2 := Aside0.mk (And.intro (Kd.C_below HG2.out.1 hb_) HG2.out.2)
  replace HEO := Aside0.mk (HEO.out.below hb_)
  replace HXC := Aside0.mk (And.intro HXC.out.1 (Kd.C_below HXC.out.2 hb_))
  replace HB2 := Aside0.mk (below_on HB2.out HB2.out.size hb_)
  clear hb_
  clear hs_
  obtain ⟨ga, Hga⟩ : ∃ g, Aside0 (w4.heap.size = g) := ⟨_, ⟨rfl⟩⟩
  rw [Hga.out] at HOA ⊢
  have b0_ := (blk_cell (HOA.out) 0).trans (rfl : _ = some (.slice C1 0 e1 : Value))
  have b1_ := (blk_cell (HOA.out) 1).trans (rfl : _ = some (.slice C2 p2 e2 : Value))
  have b2_ := (blk_cell (HOA.out) 2).trans (rfl : _ = some (.int .i64 (m : Int) : Value))
  have ne0_ : (((0 : Nat) : Int) != 0) = false := by decide
  have hp2 := HPB.out
  go_wp2_with fail
  refine (taskv_ok C1 C2 0 e1 p2 e2 (m : Int) k T1 w5 HG2.out.1 (by omega) HG2.out.2).mono ?_
  rintro e_ w6 ⟨Y3, dy3, Y4, dy4, rfl, hb_, hy1_, hy2_, hy3_, hy4_⟩
  have hop : (getTV T1 k).f5 = (m : Int) := by rw [← HTT.out, at_open HD.out, HXL.out]
  obtain ⟨y, HY⟩ : ∃ y, Aside0 (getTV T1 k = y) := ⟨_, ⟨rfl⟩⟩
  rw [HY.out] at hop ⊢
  rw [hop]
  replace HEO := Aside0.mk (HEO.out.below hb_)
  replace HXC := Aside0.mk (And.intro HXC.out.1 (Kd.C_below HXC.out.2 hb_))
  replace HB2 := Aside0.mk (below_on HB2.out HB2.out.size hb_)
  clear hb_ hy1_ hy2_ hy3_ hy4_ hop b0_ b1_ b2_ HOA HG2
  have fr_ := (field_task y.f0 y.f1 y.f2 (m : Int) Y3 Y4 y.f3.length dy3 y.f4.length dy4 w6).1
  have nm_ : ((m : Int) != (m : Int)) = false := by simp
  go_wp2_with fail
  clear fr_ nm_
  refine (stable_ok A5 m c5 xs w6 HXC.out.2 (by omega) HXC.out.1).mono ?_
  rintro e_ w7 ⟨rfl, hb_⟩
  rw [at_stable HD.out]
  replace HEO := Aside0.mk (HEO.out.below hb_)
  replace HB2 := Aside0.mk (below_on HB2.out HB2.out.size hb_)
  clear hb_ HXC
  have nz_ : ((0 : Int) != 0) = false := by decide
  go_upto_region 14 with fail
  clear nz_
  have HX := Aside0.mk (heap_alloc_new w7 (.cells #[.int .i64 4, .int .i64 k, .int .i64 0, .int .i64 0, .int .i64 0, .int .i64 0, .int .i64 0, .int .i64 0, .bool false, .slice none 0 0, .slice none 0 0] 47))
  have HBR := Aside0.mk (below_alloc (Below.refl w7.heap.size w7) (.cells #[.int .i64 4, .int .i64 k, .int .i64 0, .int .i64 0, .int .i64 0, .int .i64 0, .int .i64 0, .int .i64 0, .bool false, .slice none 0 0, .slice none 0 0] 47))
  generalize w7.alloc (.cells #[.int .i64 4, .int .i64 k, .int .i64 0, .int .i64 0, .int .i64 0, .int .i64 0, .int .i64 0, .int .i64 0, .bool false, .slice none 0 0, .slice none 0 0] 47) = w8 at HX HBR ⊢
  obtain ⟨gx, HGX⟩ : ∃ g, Aside0 (w7.heap.size = g) := ⟨_, ⟨rfl⟩⟩
  rw [HGX.out] at HX ⊢
  have HGE : Aside0 (w7.heap.size ≤ gx) := ⟨by rw [HGX.out]; exact Nat.le_refl _⟩
  go_upto_if 93 with (fail)
  go_cut [14] (fun vx wc => vx = .pointer (some ⟨gx, 0, none⟩) ∧ Aside0 (wc.heap[gx]? = some (.cells #[.int .i64 (endE k q0).f0, .int .i64 k, .int .i64 0, .int .i64 0, .int .i64 0, .int .i64 0, .int .i64 0, .int .i64 0, .bool false, .slice none 0 0, .slice none 0 0] 47 (0, 0))) ∧ Aside0 (Below w7.heap.size w7 wc))
  case first =>
    have f0_ := blk_frozen HX.out 0
    have b0_ := (blk_cell HX.out 0).trans (rfl : _ = some (.int .i64 4 : Value))
    cases q0 with
    | true =>
      go_wp2_with fail
      go_meet
      case rel => exact ⟨rfl, ⟨blk_put HX.out 0 (.int .i64 3) (rfl : _ = (#[.int .i64 3, .int .i64 k, .int .i64 0, .int .i64 0, .int .i64 0, .int .i64 0, .int .i64 0, .int .i64 0, .bool false, .slice none 0 0, .slice none 0 0] : Array Value))⟩, ⟨HBR.out.setCell (p := ⟨gx, 0, none⟩) HGE.out _⟩⟩
    | false =>
      go_wp2_with fail
      go_meet
      case rel => exact ⟨rfl, HX, HBR⟩
  case rest =>
  obtain ⟨rfl, HX, HBR⟩ := hcut
  rename World => w9
  have b0_ := (blk_cell (HX.out) 0).trans (rfl : _ = some (.int .i64 (endE k q0).f0 : Value))
  have b1_ := (blk_cell (HX.out) 1).trans (rfl : _ = some (.int .i64 k : Value))
  have b2_ := (blk_cell (HX.out) 2).trans (rfl : _ = some (.int .i64 0 : Value))
  have b3_ := (blk_cell (HX.out) 3).trans (rfl : _ = some (.int .i64 0 : Value))
  have b4_ := (blk_cell (HX.out) 4).trans (rfl : _ = some (.int .i64 0 : Value))
  have b5_ := (blk_cell (HX.out) 5).trans (rfl : _ = some (.int .i64 0 : Value))
  have b6_ := (blk_cell (HX.out) 6).trans (rfl : _ = some (.int .i64 0 : Value))
  have b7_ := (blk_cell (HX.out) 7).trans (rfl : _ = some (.int .i64 0 : Value))
  have b8_ := (blk_cell (HX.out) 8).trans (rfl : _ = some (.bool false : Value))
  have b9_ := (blk_cell (HX.out) 9).trans (rfl : _ = some (.slice none 0 0 : Value))
  have b10_ := (blk_cell (HX.out) 10).trans (rfl : _ = some (.slice none 0 0 : Value))
  obtain ⟨v_, w10, hr_, he_, hg_, hat_, hbs_, hbb_, A6, c6, rfl⟩ := HEO.out.app1 HB2.out HB2.out.size (endE k q0) none none 0 0 (C_nil w1) (Nat.le_refl 0) (C_nil w1) (Nat.le_refl 0) (below_alloc HBR.out (.cells #[.int .i64 (endE k q0).f0, .int .i64 k, .int .i64 0, .int .i64 0, .int .i64 0, .int .i64 0, .int .i64 0, .int .i64 0, .bool false, .slice none 0 0, .slice none 0 0] 47)) (heap_alloc_new w9 (.cells #[.int .i64 (endE k q0).f0, .int .i64 k, .int .i64 0, .int .i64 0, .int .i64 0, .int .i64 0, .int .i64 0, .int .i64 0, .bool false, .slice none 0 0, .slice none 0 0] 47)) (by rw [HXL.out]; omega) 22 rfl
  have HXO := Aside0.mk (HEO.out.old HXL.out HB2.out HB2.out.size (below_alloc HBR.out (.cells #[.int .i64 (endE k q0).f0, .int .i64 k, .int .i64 0, .int .i64 0, .int .i64 0, .int .i64 0, .int .i64 0, .int .i64 0, .bool false, .slice none 0 0, .slice none 0 0] 47)) (news := entC (endE k q0) none 0 none 0) (heap_alloc_new w9 (.cells #[.int .i64 (endE k q0).f0, .int .i64 k, .int .i64 0, .int .i64 0, .int .i64 0, .int .i64 0, .int .i64 0, .int .i64 0, .bool false, .slice none 0 0, .slice none 0 0] 47)) rfl (by simp [entC, Value.oneCell']) hr_ he_ (hbb_ _ w1 (Nat.le_refl _) HB2.out) (by omega))
  rw [HXL.out] at hr_ he_
  have HR := Aside0.mk hr_
  have HB3 := Aside0.mk (hbb_ _ w1 (Nat.le_refl _) HB2.out)
  obtain ⟨B1, d1, e_, hd1, _, hbc⟩ := he_.C HB3.out
  have HVL : Aside0 ((xs ++ [endE k q0]).length = m + 1) := ⟨by rw [List.length_append, HXL.out]; rfl⟩
  obtain ⟨V, HV⟩ : ∃ V, Aside0 (xs ++ [endE k q0] = V) := ⟨_, ⟨rfl⟩⟩
  rw [HV.out] at HVL hbc hd1 e_
  rw [HVL.out] at hbc hd1 e_
  obtain ⟨rfl, rfl⟩ : A6 = B1 ∧ c6 = d1 := by injection e_ with e1 _ e2; exact ⟨e1, e2⟩
  have HVC := Aside0.mk (And.intro hd1 hbc)
  clear hr_ he_ hg_ hat_ hbs_ hbb_ e_ hd1 hbc HEO HB2
  go_wp2_with (at_builtin; refine wpList_append_eq _ rfl (.tmp 95) (.tmp 97) 22 22 rfl _ _ rfl rfl HR.out ?_)
  clear HR b0_ b1_ b2_ b3_ b4_ b5_ b6_ b7_ b8_ b9_ b10_ HX HBR
  refine (read_ok A6 (m + 1) c6 V w10 HVC.out.2 (by omega) HVC.out.1).mono ?_
  rintro e_ w11 ⟨D1, f1, D2, f2, rfl, hb_, q1_, g1_, q2_, g2_⟩
  rw [HVL.out]
  obtain ⟨L2, HL2⟩ : ∃ x, Aside0 ((readV V).f0 = x) := ⟨_, ⟨rfl⟩⟩
  obtain ⟨T2, HT2⟩ : ∃ x, Aside0 ((readV V).f1 = x) := ⟨_, ⟨rfl⟩⟩
  rw [HL2.out] at q1_ g1_ ⊢
  rw [HT2.out] at q2_ g2_ ⊢
  have HQB : Aside0 (L2.length ≤ 1000000 ∧ T2.length ≤ 1000000) := ⟨by rw [← HL2.out, ← HT2.out]; exact ⟨logs_few V (by rw [HVL.out]; omega), tasks_few V (by rw [HVL.out]; omega)⟩⟩
  obtain ⟨p3, HP3⟩ : ∃ x, Aside0 (L2.length = x) := ⟨_, ⟨rfl⟩⟩
  obtain ⟨p4, HP4⟩ : ∃ x, Aside0 (T2.length = x) := ⟨_, ⟨rfl⟩⟩
  rw [HP3.out] at q1_ g1_ HQB ⊢
  rw [HP4.out] at q2_ g2_ HQB ⊢
  have HH1 := Aside0.mk (And.intro g1_ q1_)
  have HH2 := Aside0.mk (And.intro g2_ q2_)
  replace HXO := Aside0.mk (Kd.C_below HXO.out hb_)
  replace HVC := Aside0.mk (And.intro HVC.out.1 (Kd.C_below HVC.out.2 hb_))
  replace HB3 := Aside0.mk (below_on HB3.out HB3.out.size hb_)
  clear hb_ q1_ g1_ q2_ g2_
  go_upto_region 18 with fail
  have HOB := Aside0.mk (heap_alloc_new w11 (.cells #[.slice D1 p3 f1, .slice D2 p4 f2, .int .i64 ((m : Int) + 1)] 29))
  have hb_ := below_alloc (Below.refl w11.heap.size w11) (.cells #[.slice D1 p3 f1, .slice D2 p4 f2, .int .i64 ((m : Int) + 1)] 29)
  have hs_ : (w11.alloc (.cells #[.slice D1 p3 f1, .slice D2 p4 f2, .int .i64 ((m : Int) + 1)] 29)).heap.size = w11.heap.size + 1 := by simp
  generalize w11.alloc (.cells #[.slice D1 p3 f1, .slice D2 p4 f2, .int .i64 ((m : Int) + 1)] 29) = w12 at HOB hb_ hs_ ⊢
  replace HH1 := Aside0.mk (And.intro (Kd.C_below HH1.out.1 hb_) HH1.out.2)
  replace HH2 := Aside0.mk (And.intro (Kd.C_below HH2.out.1 hb_) HH2.out.2)
  replace HXO := Aside0.mk (Kd.C_below HXO.out hb_)
  replace HVC := Aside0.mk (And.intro HVC.out.1 (Kd.C_below HVC.out.2 hb_))
  replace HB3 := Aside0.mk (below_on HB3.out HB3.out.size hb_)
  clear hb_
  clear hs_
  obtain ⟨gb, Hgb⟩ : ∃ g, Aside0 (w11.heap.size = g) := ⟨_, ⟨rfl⟩⟩
  rw [Hgb.out] at HOB ⊢
  have HGL0 : Aside0 (∀ i : Nat, (getLV L2 (i : Int)).f1 = if q0 = true then (xs.filter fun x => (i : Int) == x.f4).map (·.f5) else []) := ⟨fun i => by rw [← HL2.out, ← HV.out]; exact end_log HKB.out HD.out q0 (i : Int)⟩
  obtain ⟨F, HF⟩ : ∃ F : Nat → List S45, Aside0 (∀ i : Nat, (if q0 = true then (xs.filter fun x => (i : Int) == x.f4).map (·.f5) else []) = F i) := ⟨_, ⟨fun _ => rfl⟩⟩
  have HGL : Aside0 (∀ i : Nat, (getLV L2 (i : Int)).f1 = F i) := ⟨fun i => by rw [HGL0.out i]; exact HF.out i⟩
  obtain ⟨cn, HCN⟩ : ∃ cn : Nat → Nat, Aside0 (∀ i : Nat, cn i = if q0 = true then (xs.filter fun x => decide (0 ≤ x.f4) && decide (x.f4 < (i : Int))).length else 0) := ⟨_, ⟨fun _ => rfl⟩⟩
  have HC0 : Aside0 (cn 0 = 0) := ⟨by
    rw [HCN.out]
    split
    · rw [List.filter_eq_nil_iff.2 fun x _ => by simp <;> omega]; rfl
    · rfl⟩
  have HCS : Aside0 (∀ i, cn (i + 1) = cn i + (F i).length) := ⟨fun i => by
    rw [HCN.out, HCN.out, ← HF.out]
    split
    · rw [filt_lt, List.length_map]
    · rfl⟩
  have HCB : Aside0 (∀ i, cn i ≤ 50 ∧ (F i).length ≤ 50) := ⟨fun i => by
    rw [HCN.out, ← HF.out]
    split
    · rw [List.length_map]
      exact ⟨Nat.le_trans (List.length_filter_le _ _) (by rw [HXL.out]; omega), Nat.le_trans (List.length_filter_le _ _) (by rw [HXL.out]; omega)⟩
    · simp⟩
  have HC5 : Aside0 (cn 5 = if q0 = true then m else 0) := ⟨by
    rw [HCN.out]
    split
    · exact (filt_all fun x hx => (HP.out x hx).2).trans HXL.out
    · rfl⟩
  have hp3 := HQB.out.1
  have hp4 := HQB.out.2
  clear HGL0
  go_wp2_with fail
  go_loopw [17, 18] (fun vn vi wr => ∃ i : Nat, i ≤ 5 ∧ vi = .int .i64 (i : Int) ∧ vn = .int .i64 (cn i : Int) ∧ Aside0 (Below w12.heap.size w12 wr)) (fun _ vi _ => 5 - (intOf vi).toNat)
  case atStart => exact ⟨0, by omega, rfl, by rw [HC0.out]; rfl, ⟨Below.refl _ _⟩⟩
  case round =>
    obtain ⟨i, hi, rfl, rfl, HB⟩ := hrel
    have HOBr := Aside0.mk (blk_below HOB.out HB.out)
    have HXOr := Aside0.mk (Kd.C_below HXO.out HB.out)
    have HH1r := Aside0.mk (Kd.C_below HH1.out.1 HB.out)
    have b0_ := (blk_cell (HOBr.out) 0).trans (rfl : _ = some (.slice D1 p3 f1 : Value))
    have b1_ := (blk_cell (HOBr.out) 1).trans (rfl : _ = some (.slice D2 p4 f2 : Value))
    have b2_ := (blk_cell (HOBr.out) 2).trans (rfl : _ = some (.int .i64 ((m : Int) + 1) : Value))
    by_cases hlt : i < 5
    · have h1 : decide ((i : Int) < 5) = true := by simp; omega
      have h1b : decide (i < 5) = true := by simp; omega
      go_wp2_with fail
      refine (log_ok D1 D2 p3 f1 p4 f2 _ (i : Int) L2 wr HH1r.out (by omega) HH1.out.2).mono ?_
      rintro e_ wl ⟨Y1, dy1, Y2, dy2, rfl, hb_, hy1_, gy1_, hy2_, gy2_⟩
      have hgl := HGL.out i
      have hcs := HCS.out i
      have hcb := HCB.out i
      obtain ⟨y, HY⟩ : ∃ y, Aside0 (getLV L2 (i : Int) = y) := ⟨_, ⟨rfl⟩⟩
      rw [HY.out] at hgl hy1_ gy1_ ⊢
      rw [hgl] at hy1_ gy1_ ⊢
      obtain ⟨Fi, HFI⟩ : ∃ Fi, Aside0 (F i = Fi) := ⟨_, ⟨rfl⟩⟩
      rw [HFI.out] at hy1_ gy1_ hcs hcb ⊢
      obtain ⟨nf, HNF⟩ : ∃ nf, Aside0 (Fi.length = nf) := ⟨_, ⟨rfl⟩⟩
      rw [HNF.out] at hy1_ gy1_ hcs hcb ⊢
      have HYC := Aside0.mk (And.intro hy1_ gy1_)
      have HCS1 := Aside0.mk hcs
      have hcb1 := hcb.1
      have hcb2 := hcb.2
      replace HB := Aside0.mk (below_step HB.out hb_)
      replace HXOr := Aside0.mk (Kd.C_below HXOr.out hb_)
      clear hgl hcs hcb hb_ hy1_ gy1_ hy2_ gy2_ b0_ b1_ b2_ HOBr HH1r
      go_upto_region 23 with fail
      have HVB := Aside0.mk (heap_alloc_new wl (.cells #[.int .i64 y.f0, .slice Y1 nf dy1, .slice Y2 y.f2.length dy2] 36))
      have hb_ := below_alloc (Below.refl wl.heap.size wl) (.cells #[.int .i64 y.f0, .slice Y1 nf dy1, .slice Y2 y.f2.length dy2] 36)
      have hs_ : (wl.alloc (.cells #[.int .i64 y.f0, .slice Y1 nf dy1, .slice Y2 y.f2.length dy2] 36)).heap.size = wl.heap.size + 1 := by simp
      generalize wl.alloc (.cells #[.int .i64 y.f0, .slice Y1 nf dy1, .slice Y2 y.f2.length dy2] 36) = wv at HVB hb_ hs_ ⊢
      replace HB := Aside0.mk (below_step HB.out hb_)
      replace HYC := Aside0.mk (And.intro HYC.out.1 (Kd.C_below HYC.out.2 hb_))
      replace HXOr := Aside0.mk (Kd.C_below HXOr.out hb_)
      clear hb_
      clear hs_
      obtain ⟨gv, Hgv⟩ : ∃ g, Aside0 (wl.heap.size = g) := ⟨_, ⟨rfl⟩⟩
      rw [Hgv.out] at HVB ⊢
      go_wp2_with fail
      go_loopw [20, 21] (fun vk vj wi => ∃ (j kk : Nat), j ≤ m ∧ vj = .int .i64 (j : Int) ∧ vk = .int .i64 (kk : Int) ∧ kk ≤ j ∧ Aside0 (((xs.take j).filter fun x => (i : Int) == x.f4).length = kk) ∧ Aside0 (Below wv.heap.size wv wi)) (fun _ vj _ => m - (intOf vj).toNat)
      case atStart => exact ⟨0, 0, Nat.zero_le _, rfl, rfl, Nat.le_refl _, ⟨rfl⟩, ⟨Below.refl _ _⟩⟩
      case round =>
        obtain ⟨j, kk, hj, rfl, rfl, hkj, HKK, HBI⟩ := hrel
        have v1_ := (blk_cell (blk_below HVB.out HBI.out) 1).trans (rfl : _ = some (.slice Y1 nf dy1 : Value))
        by_cases hjl : j < m
        · have h2 : decide ((j : Int) < (m : Int)) = true := by simp; omega
          have h2b : decide (j < m) = true := by simp; omega
          obtain ⟨x, hx⟩ : ∃ x, xs[j]? = some x := ⟨_, List.getElem?_eq_getElem (by rw [HXL.out]; exact hjl)⟩
          obtain ⟨ad, A9, c9, A10, c10, rfl, hcells⟩ := at_T47 (Kd.C_below HXOr.out HBI.out) (j : Int) (Int.natCast_nonneg _) (Int.ofNat_lt.2 hjl)
          rw [rd_eq hx] at hcells
          obtain ⟨_, _, _, _, x4_, x5_, x6_, x7_, _, _, _, _, _, _, _⟩ := hcells
          rw [Int.toNat_natCast] at x4_ x5_ x6_ x7_
          have HXJ := Aside0.mk hx
          clear hx
          by_cases he : x.f4 = (i : Int)
          · have e4_ : (x.f4 == (i : Int)) = true := by simpa using he
            have HPX : Aside0 (((i : Int) == x.f4) = true) := ⟨by simpa using he.symm⟩
            have HKN : Aside0 (((xs.take (j + 1)).filter fun x => (i : Int) == x.f4).length = kk + 1) := ⟨by rw [filt_next HXJ.out, HKK.out, if_pos HPX.out]⟩
            clear he
            cases q0 with
            | true =>
              have hfa := filt_at (p := fun x => (i : Int) == x.f4) HXJ.out HPX.out
              rw [HKK.out] at hfa
              have hfe : (xs.filter fun x => (i : Int) == x.f4).map (·.f5) = Fi := by rw [← HFI.out, ← HF.out i, if_pos rfl]
              rw [hfe] at hfa
              have hkn : kk < nf := by rw [← HNF.out]; exact (List.getElem?_eq_some_iff.1 hfa).1
              have hknI : (kk : Int) < (nf : Int) := by omega
              have g1_ : decide ((kk : Int) ≥ (nf : Int)) = false := decide_eq_false (by omega)
              have g2_ : decide ((nf : Int) ≤ (kk : Int)) = false := decide_eq_false (by omega)
              have g3_ : decide (nf ≤ kk) = false := decide_eq_false (by omega)
              obtain ⟨ad2, rfl, hu⟩ := at_T45 (Kd.C_below HYC.out.2 HBI.out) (kk : Int) (Int.natCast_nonneg _) hknI
              rw [show rd_T45 Fi (kk : Int) = x.f5 by unfold rd_T45; rw [Int.toNat_natCast, List.getD_eq_getElem?_getD, hfa]; rfl] at hu
              obtain ⟨u0_, u1_, u2_⟩ := hu
              rw [Int.toNat_natCast] at u0_ u1_ u2_
              clear hfa hfe
              go_upto_region 28 with fail
              go_quiet (fail)
              go_wp2_with fail
              go_roundw
              case rel => exact ⟨j + 1, kk + 1, by omega, by go_num, by go_num, by omega, HKN, ⟨below_step HBI.out (pw_below_drewN (Below.refl _ _) _)⟩⟩
              case measure => simp [intOf]; omega
            | false =>
              go_upto_region 28 with fail
              go_quiet (fail)
              go_wp2_with fail
              go_roundw
              case rel => exact ⟨j + 1, kk + 1, by omega, by go_num, by go_num, by omega, HKN, ⟨below_step HBI.out (pw_below_drewN (Below.refl _ _) _)⟩⟩
              case measure => simp [intOf]; omega
          · have e4_ : (x.f4 == (i : Int)) = false := by simpa using he
            have HKN : Aside0 (((xs.take (j + 1)).filter fun x => (i : Int) == x.f4).length = kk) := ⟨by rw [filt_next HXJ.out, HKK.out, if_neg (by simpa using fun e : (i : Int) = x.f4 => he e.symm)]; rfl⟩
            clear he
            go_wp2_with fail
            go_roundw
            case rel => exact ⟨j + 1, kk, by omega, by go_num, rfl, by omega, HKN, HBI⟩
            case measure => simp [intOf]; omega
        · obtain rfl : m = j := by omega
          have h2b : decide (m < m) = false := by simp
          have hws_ : wrap64 ((cn i : Int) + (nf : Int)) = ((cn i + nf : Nat) : Int) := by unfold wrap64; omega
          go_wp2_with fail
          go_roundw
          case rel => exact ⟨i + 1, by omega, by go_num, by first | (rw [HCS1.out]; first | rfl | (rw [← hws_]; done) | go_num) | go_num, ⟨below_step HB.out HBI.out⟩⟩
          case measure => simp [intOf]; omega
    · obtain rfl : i = 5 := by omega
      have h1 : decide (((5 : Nat) : Int) < 5) = false := by simp
      clear b0_ b1_ b2_
      go_upto_if 149 with (fail)
      go_cut [22] (fun vx wc => vx = .int .i64 (cn 5 : Int) ∧ wc = wr)
      case first =>
        cases q0 with
        | true =>
          have HM : Aside0 (cn 5 = m) := ⟨by rw [HC5.out, if_pos rfl]⟩
          go_wp2_with fail
          go_meet
          case rel => exact ⟨by rw [HM.out], rfl⟩
        | false =>
          have HM : Aside0 (cn 5 = 0) := ⟨by rw [HC5.out, if_neg (by simp)]⟩
          go_wp2_with fail
          go_meet
          case rel => exact ⟨by rw [HM.out]; rfl, rfl⟩
      case rest =>
      obtain ⟨rfl, rfl⟩ := hcut
      rename World => wr
      have b0_ := (blk_cell (HOBr.out) 0).trans (rfl : _ = some (.slice D1 p3 f1 : Value))
      have b1_ := (blk_cell (HOBr.out) 1).trans (rfl : _ = some (.slice D2 p4 f2 : Value))
      have b2_ := (blk_cell (HOBr.out) 2).trans (rfl : _ = some (.int .i64 ((m : Int) + 1) : Value))
      have ec_ : ((cn 5 : Int) == (cn 5 : Int)) = true := by simp
      go_wp2_with fail
      refine (taskv_ok D1 D2 p3 f1 p4 f2 _ k T2 wr (Kd.C_below HH2.out.1 HB.out) (by omega) HH2.out.2).mono ?_
      rintro e_ w13 ⟨Y3, dy3, Y4, dy4, rfl, hb_, hy1_, hy2_, hy3_, hy4_⟩
      have hop : (getTV T2 k).f2 = 1 := by rw [← HT2.out, ← HV.out]; exact end_txns HKB.out HD.out q0
      obtain ⟨y, HY⟩ : ∃ y, Aside0 (getTV T2 k = y) := ⟨_, ⟨rfl⟩⟩
      rw [HY.out] at hop ⊢
      rw [hop]
      replace HB := Aside0.mk (below_step HB.out hb_)
      clear hb_ hy1_ hy2_ hy3_ hy4_ hop b0_ b1_ b2_
      have fr_ := (field_task y.f0 y.f1 1 y.f5 Y3 Y4 y.f3.length dy3 y.f4.length dy4 w13).2
      have e1_ : ((1 : Int) == 1) = true := by decide
      go_wp2_with fail
      clear fr_
      refine (stable_ok A6 (m + 1) c6 V w13 (Kd.C_below HVC.out.2 HB.out) (by omega) HVC.out.1).mono ?_
      rintro e_ w14 ⟨rfl, hb_⟩
      have hst : stableV V = ((m + 1 : Nat) : Int) := by rw [← HVL.out, ← HV.out]; exact end_stable HKB.out HD.out q0
      rw [hst]
      clear hst
      have e2_ : (((m + 1 : Nat) : Int) == ((m + 1 : Nat) : Int)) = true := by simp
      have e3_ : ((m : Int) + 1 == (m : Int) + 1) = true := by simp
      go_wp2_with fail
      go_ret
      exact ⟨rfl, below_step HBW.out (below_on HB3.out HB3.out.size (below_step HB.out hb_))⟩
end Go.Proofs.Ytmnglonjekegcaa.Vw
