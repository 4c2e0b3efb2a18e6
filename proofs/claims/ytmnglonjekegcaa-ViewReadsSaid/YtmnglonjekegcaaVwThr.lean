/- (c11) view.through. -/
import Derived.Test.YtmnglonjekegcaaVwStep
namespace Go.Proofs.Ytmnglonjekegcaa.Vw
open Go Go.RowKit Go.Maps Go.Proofs.Ytmnglonjekegcaa.Mk Go.Proofs.Ytmnglonjekegcaa.Rp Go.Proofs.YtmnglonjekegcaaW.PrintWords Go.Proofs.YtmnglonjekegcaaW.PrintLast Go.Proofs.YtmnglonjekegcaaW.PrintMore Go.Proofs.Ytmnglonjekegcaa.Rw Go.Proofs.Ytmnglonjekegcaa.Ow Go.Proofs.Ytmnglonjekegcaa.Mono
set_option linter.unusedVariables false
set_option linter.unusedSimpArgs false
set_option maxRecDepth 100000
theorem StInv.go (l : List S47) : ∀ {n : Nat} {st : St} (i : Int), StInv n st → StInv (n + l.length) (goV st i l) := by
  induction l with
  | nil => exact fun i h => h
  | cons x l ih =>
    intro n st i h
    rw [goV, List.length_cons]
    have := ih (i + 1) (h.step i x)
    rw [show n + (l.length + 1) = n + 1 + l.length by omega]
    exact this
theorem StInv.through (l : List S47) : StInv l.length (throughV l) := by
  have := StInv.go l 0 StInv.start
  rw [Nat.zero_add] at this
  exact this
def ThrP (w : World) (l : List S47) (e : Ending) (w' : World) : Prop := ∃ bs M T, e = .returned (.pointer (some ⟨bs, 0, none⟩)) ∧ Below w.heap.size w w' ∧ VS w' w.heap.size bs M T ∧ (⟨M.map (·.l), T.map TE.s⟩ : St) = throughV l
theorem rd_eq {l : List S47} {i : Nat} {x : S47} (h : l[i]? = some x) : rd_T47 l (i : Int) = x := by
  unfold rd_T47
  rw [Int.toNat_natCast, List.getD_eq_getElem?_getD, h]
  rfl
theorem start_below (w : World) : Below w.heap.size w (((w.alloc (.map #[] 0)).alloc (.map #[] 0)).alloc (.cells #[.map (some w.heap.size), .map (some (w.heap.size + 1))] 62)) := below_alloc (below_alloc (below_alloc (Below.refl _ _) _) _) _
theorem start_ok (w : World) : VS (((w.alloc (.map #[] 0)).alloc (.map #[] 0)).alloc (.cells #[.map (some w.heap.size), .map (some (w.heap.size + 1))] 62)) w.heap.size (w.heap.size + 1 + 1) [] [] := by
  have h1 : (w.alloc (.map #[] 0)).heap.size = w.heap.size + 1 := by simp
  have h2 : ((w.alloc (.map #[] 0)).alloc (.map #[] 0)).heap.size = w.heap.size + 1 + 1 := by simp
  have b2 := below_alloc (Below.refl (w.alloc (.map #[] 0)).heap.size (w.alloc (.map #[] 0))) (.map #[] 0)
  have b3 := below_alloc (Below.refl ((w.alloc (.map #[] 0)).alloc (.map #[] 0)).heap.size ((w.alloc (.map #[] 0)).alloc (.map #[] 0))) (.cells #[.map (some w.heap.size), .map (some (w.heap.size + 1))] 62)
  have hc := heap_alloc_new ((w.alloc (.map #[] 0)).alloc (.map #[] 0)) (.cells #[.map (some w.heap.size), .map (some (w.heap.size + 1))] 62)
  rw [h2] at hc b3
  rw [h1] at b2
  have hm2 := MapP.new (w.alloc (.map #[] 0))
  rw [h1] at hm2
  refine ⟨⟨w.heap.size, w.heap.size + 1, hc, ⟨?_, Nat.le_refl _, by simp, by simp, by simp⟩, ⟨?_, by omega, by simp, by simp, by simp⟩, by omega⟩, by omega⟩
  · exact ((MapP.new w).move (b2.block _ (by omega))).move (b3.block _ (by omega))
  · exact hm2.move (b3.block _ (by omega))
set_option maxHeartbeats 4000000 in
theorem through_ok (A : Option Addr) (n c : Nat) (l : List S47) (w : World) (hC : Kd.C k47 w A n l) (hn : n ≤ 900) (hnc : n ≤ c) : Calls Try.prog 21 #[.slice A n c] w (ThrP w l) := by
  have HC := Aside0.mk hC
  have HN := Aside0.mk hn
  have HLN := Aside0.mk hC.1
  clear hC
  obtain ⟨base, HBA⟩ : ∃ b, Aside0 (w.heap.size = b) := ⟨_, ⟨rfl⟩⟩
  have hm1 : ∀ w : World, (Instr.makeMap 59 none).run Try.prog w = .ok (.map (some w.heap.size)) (w.alloc (.map #[] 0)) := fun _ => by rfl
  have hm2 : ∀ w : World, (Instr.makeMap 60 none).run Try.prog w = .ok (.map (some w.heap.size)) (w.alloc (.map #[] 0)) := fun _ => by rfl
  go_enter Try.func21, Try.ntmps21
  go_wp2_with fail
  clear hm1 hm2
  have HST := Aside0.mk (start_ok w)
  have HBW := Aside0.mk (start_below w)
  generalize ((w.alloc (.map #[] 0)).alloc (.map #[] 0)).alloc (.cells #[.map (some w.heap.size), .map (some (w.heap.size + 1))] 62) = w1 at HST HBW ⊢
  generalize w.heap.size + 1 + 1 = bs at HST ⊢
  go_loopw [12] (fun v12 wr => ∃ (i : Nat) (M : List LE) (T : List TE), i ≤ n ∧ v12 = .int .i64 (i : Int) ∧ Aside0 (VS wr w.heap.size bs M T) ∧ Aside0 ((⟨M.map (·.l), T.map TE.s⟩ : St) = throughV (l.take i)) ∧ Aside0 (Below w.heap.size w wr)) (fun v12 _ => n - (intOf v12).toNat)
  case atStart => exact ⟨0, [], [], Nat.zero_le _, rfl, HST, ⟨rfl⟩, HBW⟩
  case round =>
    clear HST HBW
    obtain ⟨i, M, T, hi, rfl, HV, HM, HB⟩ := hrel
    by_cases hlt : i < n
    · have h1 : decide ((i : Int) < (n : Int)) = true := by simp; omega
      have h1b : decide (i < n) = true := by simp; omega
      obtain ⟨x, hx⟩ : ∃ x, l[i]? = some x := ⟨_, List.getElem?_eq_getElem (by rw [HLN.out]; omega)⟩
      obtain ⟨ad, A9, c9, A10, c10, rfl, hcells⟩ := at_T47 HC.out (i : Int) (Int.natCast_nonneg _) (Int.ofNat_lt.2 hlt)
      rw [rd_eq hx] at hcells
      obtain ⟨x0_, x1_, x2_, x3_, x4_, x5_, x6_, x7_, x8_, x9_, x10_, l9, g9, l10, g10⟩ := hcells
      replace x0_ := pw_cell_below HB.out x0_
      replace x1_ := pw_cell_below HB.out x1_
      replace x2_ := pw_cell_below HB.out x2_
      replace x3_ := pw_cell_below HB.out x3_
      replace x4_ := pw_cell_below HB.out x4_
      replace x5_ := pw_cell_below HB.out x5_
      replace x6_ := pw_cell_below HB.out x6_
      replace x7_ := pw_cell_below HB.out x7_
      replace x8_ := pw_cell_below HB.out x8_
      replace x9_ := pw_cell_below HB.out x9_
      replace x10_ := pw_cell_below HB.out x10_
      rw [Int.toNat_natCast] at x0_ x1_ x2_ x3_ x4_ x5_ x6_ x7_ x8_ x9_ x10_
      have HXI := Aside0.mk hx
      have HL9 := Aside0.mk l9
      have HL10 := Aside0.mk l10
      have HG9 := Aside0.mk g9
      have HG10 := Aside0.mk g10
      clear hx l9 l10 g9 g10
      go_upto_region 5 with fail
      clear x0_ x1_ x2_ x3_ x4_ x5_ x6_ x7_ x8_ x9_ x10_
      have HQ := Aside0.mk (heap_alloc_new wr (.cells #[.int .i64 x.f0, .int .i64 x.f1, .int .i64 x.f2, .int .i64 x.f3, .int .i64 x.f4, .int .i64 x.f5.f0, .int .i64 x.f5.f1, .int .i64 x.f5.f2, .bool x.f6, .slice A9 x.f7.length c9, .slice A10 x.f8.length c10] 47))
      have hb_ := below_alloc (Below.refl wr.heap.size wr) (.cells #[.int .i64 x.f0, .int .i64 x.f1, .int .i64 x.f2, .int .i64 x.f3, .int .i64 x.f4, .int .i64 x.f5.f0, .int .i64 x.f5.f1, .int .i64 x.f5.f2, .bool x.f6, .slice A9 x.f7.length c9, .slice A10 x.f8.length c10] 47)
      have hs_ : (wr.alloc (.cells #[.int .i64 x.f0, .int .i64 x.f1, .int .i64 x.f2, .int .i64 x.f3, .int .i64 x.f4, .int .i64 x.f5.f0, .int .i64 x.f5.f1, .int .i64 x.f5.f2, .bool x.f6, .slice A9 x.f7.length c9, .slice A10 x.f8.length c10] 47)).heap.size = wr.heap.size + 1 := by simp
      generalize wr.alloc (.cells #[.int .i64 x.f0, .int .i64 x.f1, .int .i64 x.f2, .int .i64 x.f3, .int .i64 x.f4, .int .i64 x.f5.f0, .int .i64 x.f5.f1, .int .i64 x.f5.f2, .bool x.f6, .slice A9 x.f7.length c9, .slice A10 x.f8.length c10] 47) = wq at HQ hb_ hs_ ⊢
      replace HV := Aside0.mk (HV.out.below hb_)
      replace HB := Aside0.mk (below_step HB.out hb_)
      clear hb_
      clear hs_
      have q0_ := (blk_cell HQ.out 0).trans (rfl : _ = some (.int .i64 x.f0 : Value))
      have q1_ := (blk_cell HQ.out 1).trans (rfl : _ = some (.int .i64 x.f1 : Value))
      have q2_ := (blk_cell HQ.out 2).trans (rfl : _ = some (.int .i64 x.f2 : Value))
      have q3_ := (blk_cell HQ.out 3).trans (rfl : _ = some (.int .i64 x.f3 : Value))
      have q4_ := (blk_cell HQ.out 4).trans (rfl : _ = some (.int .i64 x.f4 : Value))
      have q5_ := (blk_cell HQ.out 5).trans (rfl : _ = some (.int .i64 x.f5.f0 : Value))
      have q6_ := (blk_cell HQ.out 6).trans (rfl : _ = some (.int .i64 x.f5.f1 : Value))
      have q7_ := (blk_cell HQ.out 7).trans (rfl : _ = some (.int .i64 x.f5.f2 : Value))
      have q8_ := (blk_cell HQ.out 8).trans (rfl : _ = some (.bool x.f6 : Value))
      have q9_ := (blk_cell HQ.out 9).trans (rfl : _ = some (.slice A9 x.f7.length c9 : Value))
      have q10_ := (blk_cell HQ.out 10).trans (rfl : _ = some (.slice A10 x.f8.length c10 : Value))
      go_wp2_with fail
      refine (step_ok w.heap.size bs i (i : Int) x A9 A10 c9 c10 w wq M T HV.out HB.out rfl HB.out.size HG9.out HL9.out HG10.out HL10.out (by rw [HM.out]; have h2 := StInv.through (l.take i); rwa [List.length_take, HLN.out, Nat.min_eq_left hi] at h2) (by have := HN.out; omega)).mono ?_
      rintro e_ w3 ⟨rfl, hB_, hbs_, M2, T2, hv_, hm_⟩
      clear q0_ q1_ q2_ q3_ q4_ q5_ q6_ q7_ q8_ q9_ q10_
      have HV3 := Aside0.mk hv_
      have HB3 := Aside0.mk hB_
      have HM3 : Aside0 ((⟨M2.map (·.l), T2.map TE.s⟩ : St) = throughV (l.take (i + 1))) := ⟨by
        have h3 := throughV_snoc (l.take i) x
        rw [List.length_take, HLN.out, Nat.min_eq_left hi, ← HM.out] at h3
        rw [List.take_add_one, HXI.out]
        exact hm_.trans h3.symm⟩
      clear hv_ hB_ hbs_ hm_
      go_wp2_with fail
      go_roundw
      case rel => exact ⟨i + 1, M2, T2, by omega, by go_num, HV3, HM3, HB3⟩
      case measure => simp [intOf]; omega
    · obtain rfl : n = i := by omega
      have h1b : decide (n < n) = false := by simp
      have HME : Aside0 ((⟨M.map (·.l), T.map TE.s⟩ : St) = throughV l) := ⟨by rw [HM.out, List.take_of_length_le (by rw [HLN.out]; exact Nat.le_refl _)]⟩
      go_wp2_with fail
      go_ret
      exact ⟨bs, M, T, rfl, HB.out, HV.out, HME.out⟩
end Go.Proofs.Ytmnglonjekegcaa.Vw
