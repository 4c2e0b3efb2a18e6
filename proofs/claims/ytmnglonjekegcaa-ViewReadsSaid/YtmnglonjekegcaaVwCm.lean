/- (c11) slices.Clone, state.commit. -/
import Derived.Test.YtmnglonjekegcaaVwC
namespace Go.Proofs.Ytmnglonjekegcaa.Vw
open Go Go.RowKit Go.Maps Go.Proofs.Ytmnglonjekegcaa.Mk Go.Proofs.Ytmnglonjekegcaa.Rp Go.Proofs.YtmnglonjekegcaaW.PrintWords Go.Proofs.YtmnglonjekegcaaW.PrintLast Go.Proofs.YtmnglonjekegcaaW.PrintMore Go.Proofs.Ytmnglonjekegcaa.Rw Go.Proofs.Ytmnglonjekegcaa.Ow Go.Proofs.Ytmnglonjekegcaa.Mono
set_option linter.unusedVariables false
set_option linter.unusedSimpArgs false
set_option maxRecDepth 100000
def CloneP (w : World) (base n : Nat) (l : List Int) (e : Ending) (w' : World) : Prop :=
  ∃ A c n0, e = .returned (.slice A n c) ∧ Below w.heap.size w w' ∧ w'.ownsRow base 3 1 (.slice A n c) n (cellsI l) ∧ w.heap.size ≤ n0 ∧ ((Value.slice A n c).ownBlock = none ∨ (Value.slice A n c).ownBlock = some n0)
theorem clone_ok (A : Option Addr) (n c base : Nat) (l : List Int) (w : World) (hC : Kd.C (Kd.int .i64) w A n l) (hn : n ≤ 1000000) (hb : base ≤ w.heap.size) : Calls Try.prog 44 #[.slice A n c] w (CloneP w base n l) := by
  cases A with
  | none =>
    have h0 : n = 0 := by
      obtain ⟨h1, h2, h3⟩ := hC
      rcases Nat.eq_zero_or_pos n with h | h
      · exact h
      · obtain ⟨_, e, _⟩ := h3 h
        cases e
    subst h0
    have h1 : l = [] := List.length_eq_zero_iff.1 hC.1
    subst h1
    have hq : ∀ w, (binOp .eql 39 (.slice none 0 c) (.slice none 0 0)).run Try.prog w = .ok (.bool true) w := fun _ => by rfl
    go_enter Try.func44, Try.ntmps44
    go_wp2
    go_ret
    exact ⟨none, 0, w.heap.size, rfl, Below.refl _ _, World.ownsRow_nil _ _ _ _, Nat.le_refl _, .inl rfl⟩
  | some ad =>
    have HC := Aside0.mk hC
    have HBS := Aside0.mk hb
    have HN := Aside0.mk hn
    clear hC hb hn
    have hq : ∀ w, (binOp .eql 39 (.slice (some ad) n c) (.slice none 0 0)).run Try.prog w = .ok (.bool false) w := fun _ => by rfl
    go_enter Try.func44, Try.ntmps44
    go_upto_region 3 with fail
    obtain ⟨v', w2, hr_, ho_, hg_, hat_, A2, c2, rfl⟩ := app_run TII 39 rfl (w.alloc (.cells #[] 3)) base 0 (.slice (some ⟨w.heap.size, 0, none⟩) 0 0) [] (own_mk HBS.out (heap_alloc_new w _) (Nat.le_refl _) (Nat.zero_le _) rfl (rest := []) rfl rfl) ad n c (cellsI l) (by rw [cellsI_len, HC.out.1, Nat.mul_one]) (cells_C (Kd.C_below HC.out (below_alloc (Below.refl _ _) _))) (cellsI_one l) (by have := HN.out; have : 9000000 ≤ maxLen := (by decide); omega) (by have := HN.out; omega) (Nat.le_trans HBS.out (by simp))
    rw [Nat.zero_add] at hr_ ho_
    have HO := Aside0.mk ho_
    have HBb := Aside0.mk ((below_alloc (Below.refl w.heap.size w) (.cells #[] 3)).grown hg_ (by simp) (fun k hk => by have h2 : some w.heap.size = some k := hk; injection h2 with h2; omega))
    have HAT := Aside0.mk hat_
    clear ho_ hg_ hat_
    go_wp2_with (at_builtin; refine wpList_append_eq _ rfl (.tmp 5) (.tmp 6) 39 39 rfl _ _ rfl rfl hr_ ?_)
    go_ret
    have hz : (Value.slice A2 (0 + n) c2).ownBlock = (Value.slice A2 n c2).ownBlock := by rw [Nat.zero_add]
    rcases HAT.out with h | h
    · have hh : (Value.slice A2 n c2).ownBlock = some w.heap.size := hz.symm.trans h
      exact ⟨_, _, w.heap.size, rfl, HBb.out, HO.out, Nat.le_refl _, .inr hh⟩
    · have hh : (Value.slice A2 n c2).ownBlock = some (w.heap.size + 1) := (hz.symm.trans h).trans (by simp)
      exact ⟨_, _, w.heap.size + 1, rfl, HBb.out, HO.out, Nat.le_succ _, .inr hh⟩
theorem items_at {w : World} {base n c g : Nat} {L : List IT} (h : w.ownsRow base 75 12 (.slice (some ⟨g, 0, none⟩) n c) n (cellsIt L)) {j : Nat} {p : IT} (hp : L[j]? = some p) (k : Nat) (u : Value) (hu : (itC p)[k]? = some u) : w.cell? ⟨g, j * 12 + k, none⟩ = some u := own_cell h (cellsIt_at hp k u hu)
set_option maxHeartbeats 4000000 in
theorem commit_ok (base bs : Nat) (x : S47) (A9 A10 : Option Addr) (c9 c10 : Nat) (w0 w : World) (M : List LE) (T : List TE) (i nb : Nat) (e : TE) (hv : VS w base bs M T) (hB : Below base w0 w) (hb0 : base = w0.heap.size) (hbase : base ≤ w.heap.size) (hi : T[i]? = some e)
    (hC9 : Kd.C (Kd.int .i64) w0 A9 x.f7.length x.f7) (hC10 : Kd.C (Kd.int .i64) w0 A10 x.f8.length x.f8) (hL : BdL nb (M.map (·.l))) (hnb : nb + e.items.length < 1000000) (hx7 : x.f7.length ≤ 1000000) (hx8 : e.t.f4.length + x.f8.length ≤ 1000000) (hwf : ∀ it ∈ e.items, (Lit.int .i64 it.x.f4).wf = true) :
    Calls Try.prog 35 #[.pointer (some ⟨bs, 0, none⟩), .pointer (some ⟨e.g, 0, none⟩), .agg #[.int .i64 x.f0, .int .i64 x.f1, .int .i64 x.f2, .int .i64 x.f3, .int .i64 x.f4, .int .i64 x.f5.f0, .int .i64 x.f5.f1, .int .i64 x.f5.f2, .bool x.f6, .slice A9 x.f7.length c9, .slice A10 x.f8.length c10]] w fun r w' => r = .returned (.tuple #[]) ∧ Below base w0 w' ∧ base ≤ w'.heap.size ∧ KeepX (fun T => isL T ∨ isT T) w w' ∧ ∃ M' vo vq, VS w' base bs M' (T.set i { e with t := { e.t with f3 := x.f7, f4 := e.t.f4 ++ x.f8 }, vo := vo, vq := vq }) ∧ M'.map (·.l) = commitL (M.map (·.l)) e.s.o := by
  have HV := Aside0.mk hv
  have HB := Aside0.mk hB
  have HB0 := Aside0.mk hb0
  have HBS := Aside0.mk hbase
  have HI := Aside0.mk hi
  have HC9 := Aside0.mk hC9
  have HC10 := Aside0.mk hC10
  have HBD := Aside0.mk hL
  have HNB := Aside0.mk hnb
  have HX7 := Aside0.mk hx7
  have HX8 := Aside0.mk hx8
  have HWF := Aside0.mk hwf
  have HK := Aside0.mk (KeepX.refl isL w)
  clear hv hB hb0 hbase hi hC9 hC10 hL hnb hx7 hx8 hwf
  obtain ⟨n, HN⟩ : ∃ n, Aside0 (e.items.length = n) := ⟨_, ⟨rfl⟩⟩
  obtain ⟨Ap, cp, hvp, hn1, hn2⟩ := slice_of (HV.out.task HI.out).rp
  rw [HN.out] at hvp hn1
  have HVP := Aside0.mk hvp
  have hcm : cp ≤ 9223372036854775807 := Nat.le_trans hn2 (by decide)
  have hnm : n ≤ 1000000 := by have := HNB.out; rw [HN.out] at this; omega
  clear hvp hn2
  go_enter Try.func35, Try.ntmps35
  go_upto_region 1 with fail
  have HX := Aside0.mk (heap_alloc_new w (.cells #[.int .i64 x.f0, .int .i64 x.f1, .int .i64 x.f2, .int .i64 x.f3, .int .i64 x.f4, .int .i64 x.f5.f0, .int .i64 x.f5.f1, .int .i64 x.f5.f2, .bool x.f6, .slice A9 x.f7.length c9, .slice A10 x.f8.length c10] 47))
  have hb_ := below_alloc (Below.refl w.heap.size w) (.cells #[.int .i64 x.f0, .int .i64 x.f1, .int .i64 x.f2, .int .i64 x.f3, .int .i64 x.f4, .int .i64 x.f5.f0, .int .i64 x.f5.f1, .int .i64 x.f5.f2, .bool x.f6, .slice A9 x.f7.length c9, .slice A10 x.f8.length c10] 47)
  have hs_ : (w.alloc (.cells #[.int .i64 x.f0, .int .i64 x.f1, .int .i64 x.f2, .int .i64 x.f3, .int .i64 x.f4, .int .i64 x.f5.f0, .int .i64 x.f5.f1, .int .i64 x.f5.f2, .bool x.f6, .slice A9 x.f7.length c9, .slice A10 x.f8.length c10] 47)).heap.size = w.heap.size + 1 := by simp
  generalize w.alloc (.cells #[.int .i64 x.f0, .int .i64 x.f1, .int .i64 x.f2, .int .i64 x.f3, .int .i64 x.f4, .int .i64 x.f5.f0, .int .i64 x.f5.f1, .int .i64 x.f5.f2, .bool x.f6, .slice A9 x.f7.length c9, .slice A10 x.f8.length c10] 47) = w1 at HX hb_ hs_ ⊢
  replace HV := Aside0.mk (HV.out.below hb_)
  replace HB := Aside0.mk (below_on HB.out HBS.out hb_)
  replace HBS := Aside0.mk (Nat.le_trans HBS.out hb_.size)
  replace HK := Aside0.mk (HK.out.below hb_)
  clear hb_
  clear hs_
  obtain ⟨gx, HGX⟩ : ∃ g, Aside0 (w.heap.size = g) := ⟨_, ⟨rfl⟩⟩
  rw [HGX.out] at HX ⊢
  have c6_ := (blk_cell (HV.out.task HI.out).cell 6).trans (rfl : _ = some (e.vp : Value))
  rw [HVP.out] at c6_
  go_wp2_with fail
  clear c6_
  go_loopw [13] (fun v13 wr => ∃ (j : Nat) (M' : List LE), j ≤ n ∧ v13 = .int .i64 (j : Int) ∧ Aside0 (VS wr base bs M' T) ∧ Aside0 (M'.map (·.l) = ((e.items.map (·.x)).take j).foldl putL (M.map (·.l))) ∧ Aside0 (Below base w0 wr) ∧ Aside0 (base ≤ wr.heap.size) ∧ Aside0 (wr.heap[gx]? = some (.cells #[.int .i64 x.f0, .int .i64 x.f1, .int .i64 x.f2, .int .i64 x.f3, .int .i64 x.f4, .int .i64 x.f5.f0, .int .i64 x.f5.f1, .int .i64 x.f5.f2, .bool x.f6, .slice A9 x.f7.length c9, .slice A10 x.f8.length c10] 47 (0, 0))) ∧ Aside0 (KeepX isL w wr)) (fun v13 _ => n - (intOf v13).toNat)
  case atStart => exact ⟨0, M, Nat.zero_le _, rfl, HV, ⟨rfl⟩, HB, HBS, HX, HK⟩
  case round =>
    clear HV HB HBS HX HK
    obtain ⟨j, M', hj, rfl, HV, HM, HB, HBS, HX, HK⟩ := hrel
    by_cases hlt : j < n
    · have h1 : decide ((j : Int) < (n : Int)) = true := by simp; omega
      have h1b : decide (j < n) = true := by simp; omega
      obtain ⟨p, hp⟩ : ∃ p, e.items[j]? = some p := ⟨_, List.getElem?_eq_getElem (by rw [HN.out]; omega)⟩
      have hrp := (HV.out.task HI.out).rp
      rw [HVP.out, HN.out] at hrp
      obtain ⟨gp, rfl⟩ := own_some hrp (by omega)
      have q0_ := items_at hrp hp 0 (.int .i64 p.at_) rfl
      have q1_ := items_at hrp hp 1 (.int .i64 p.x.f0) rfl
      have q2_ := items_at hrp hp 2 (.int .i64 p.x.f1) rfl
      have q3_ := items_at hrp hp 3 (.int .i64 p.x.f2) rfl
      have q4_ := items_at hrp hp 4 (.int .i64 p.x.f3) rfl
      have q5_ := items_at hrp hp 5 (.int .i64 p.x.f4) rfl
      have q6_ := items_at hrp hp 6 (.int .i64 p.x.f5.f0) rfl
      have q7_ := items_at hrp hp 7 (.int .i64 p.x.f5.f1) rfl
      have q8_ := items_at hrp hp 8 (.int .i64 p.x.f5.f2) rfl
      have q9_ := items_at hrp hp 9 (.bool p.x.f6) rfl
      have q10_ := items_at hrp hp 10 (.slice p.A9 p.x.f7.length p.c9) rfl
      have q11_ := items_at hrp hp 11 (.slice p.A10 p.x.f8.length p.c10) rfl
      rw [Nat.add_zero] at q0_
      have HP := Aside0.mk hp
      clear hp
      have HRP := Aside0.mk hrp
      clear hrp
      go_upto_region 4 with fail
      clear q0_ q1_ q2_ q3_ q4_ q5_ q6_ q7_ q8_ q9_ q10_ q11_
      have HQ := Aside0.mk (heap_alloc_new wr (.cells #[.int .i64 p.at_, .int .i64 p.x.f0, .int .i64 p.x.f1, .int .i64 p.x.f2, .int .i64 p.x.f3, .int .i64 p.x.f4, .int .i64 p.x.f5.f0, .int .i64 p.x.f5.f1, .int .i64 p.x.f5.f2, .bool p.x.f6, .slice p.A9 p.x.f7.length p.c9, .slice p.A10 p.x.f8.length p.c10] 75))
      have hb_ := below_alloc (Below.refl wr.heap.size wr) (.cells #[.int .i64 p.at_, .int .i64 p.x.f0, .int .i64 p.x.f1, .int .i64 p.x.f2, .int .i64 p.x.f3, .int .i64 p.x.f4, .int .i64 p.x.f5.f0, .int .i64 p.x.f5.f1, .int .i64 p.x.f5.f2, .bool p.x.f6, .slice p.A9 p.x.f7.length p.c9, .slice p.A10 p.x.f8.length p.c10] 75)
      have hs_ : (wr.alloc (.cells #[.int .i64 p.at_, .int .i64 p.x.f0, .int .i64 p.x.f1, .int .i64 p.x.f2, .int .i64 p.x.f3, .int .i64 p.x.f4, .int .i64 p.x.f5.f0, .int .i64 p.x.f5.f1, .int .i64 p.x.f5.f2, .bool p.x.f6, .slice p.A9 p.x.f7.length p.c9, .slice p.A10 p.x.f8.length p.c10] 75)).heap.size = wr.heap.size + 1 := by simp
      generalize wr.alloc (.cells #[.int .i64 p.at_, .int .i64 p.x.f0, .int .i64 p.x.f1, .int .i64 p.x.f2, .int .i64 p.x.f3, .int .i64 p.x.f4, .int .i64 p.x.f5.f0, .int .i64 p.x.f5.f1, .int .i64 p.x.f5.f2, .bool p.x.f6, .slice p.A9 p.x.f7.length p.c9, .slice p.A10 p.x.f8.length p.c10] 75) = wq at HQ hb_ hs_ ⊢
      replace HX := Aside0.mk (blk_below HX.out hb_)
      replace HV := Aside0.mk (HV.out.below hb_)
      replace HB := Aside0.mk (below_on HB.out HBS.out hb_)
      replace HBS := Aside0.mk (Nat.le_trans HBS.out hb_.size)
      replace HK := Aside0.mk (HK.out.below hb_)
      clear hb_
      clear hs_
      have q1_ := (blk_cell HQ.out 1).trans (rfl : _ = some (.int .i64 p.x.f0 : Value))
      have q2_ := (blk_cell HQ.out 2).trans (rfl : _ = some (.int .i64 p.x.f1 : Value))
      have q3_ := (blk_cell HQ.out 3).trans (rfl : _ = some (.int .i64 p.x.f2 : Value))
      have q4_ := (blk_cell HQ.out 4).trans (rfl : _ = some (.int .i64 p.x.f3 : Value))
      have q5_ := (blk_cell HQ.out 5).trans (rfl : _ = some (.int .i64 p.x.f4 : Value))
      have q6_ := (blk_cell HQ.out 6).trans (rfl : _ = some (.int .i64 p.x.f5.f0 : Value))
      have q7_ := (blk_cell HQ.out 7).trans (rfl : _ = some (.int .i64 p.x.f5.f1 : Value))
      have q8_ := (blk_cell HQ.out 8).trans (rfl : _ = some (.int .i64 p.x.f5.f2 : Value))
      have q9_ := (blk_cell HQ.out 9).trans (rfl : _ = some (.bool p.x.f6 : Value))
      have q10_ := (blk_cell HQ.out 10).trans (rfl : _ = some (.slice p.A9 p.x.f7.length p.c9 : Value))
      have q11_ := (blk_cell HQ.out 11).trans (rfl : _ = some (.slice p.A10 p.x.f8.length p.c10 : Value))
      have hbd : M'.length ≤ nb + n ∧ ∀ e ∈ M', e.l.f1.length ≤ nb + n ∧ e.l.f2.length ≤ nb + n := by
        have h := BdL.foldl ((e.items.map (·.x)).take j) HBD.out
        rw [← HM.out] at h
        have h2 : nb + ((e.items.map (·.x)).take j).length ≤ nb + n := by rw [List.length_take]; omega
        refine ⟨by have := h.1; rw [List.length_map] at this; omega, fun a ha => ?_⟩
        have := h.2 a.l (List.mem_map.2 ⟨a, ha, rfl⟩)
        omega
      have HBM := Aside0.mk hbd
      have HNM : Aside0 (nb + n < 1000000) := ⟨by rw [← HN.out]; exact HNB.out⟩
      clear hbd
      go_wp2_with fail
      refine (put_ok base bs p.x p.A9 p.A10 p.x.f7.length p.c9 p.x.f8.length p.c10 w0 wq M' T HV.out HB.out HBS.out (HWF.out p (List.mem_of_getElem? HP.out)) (by have := HBM.out.1; have := HNM.out; omega) (fun a ha => by have := HBM.out.2 a ha; have := HNM.out; omega)).mono ?_
      rintro e_ w3 ⟨rfl, hB_, hbs_, hk_, M2, hv_, hm_⟩
      clear q1_ q2_ q3_ q4_ q5_ q6_ q7_ q8_ q9_ q10_ q11_
      have HV3 := Aside0.mk hv_
      have HB3 := Aside0.mk hB_
      have HBS3 := Aside0.mk hbs_
      have HX3 := Aside0.mk (hk_ _ _ _ (by unfold isL; decide) HX.out)
      have HK3 := Aside0.mk (HK.out.trans hk_)
      have HM3 : Aside0 (M2.map (·.l) = ((e.items.map (·.x)).take (j + 1)).foldl putL (M.map (·.l))) := ⟨by
        rw [hm_, HM.out, List.take_add_one, List.getElem?_map, HP.out, List.foldl_append]
        rfl⟩
      clear hv_ hB_ hbs_ hk_ hm_
      go_wp2_with fail
      go_roundw
      case rel => exact ⟨j + 1, M2, by omega, by go_num, HV3, HM3, HB3, HBS3, HX3, HK3⟩
      case measure => simp [intOf]; omega
    · obtain rfl : n = j := by omega
      have h1b : decide (n < n) = false := by simp
      have HME : Aside0 (M'.map (·.l) = commitL (M.map (·.l)) e.s.o) := ⟨by
        rw [HM.out, List.take_of_length_le (by rw [List.length_map, HN.out]; exact Nat.le_refl _)]
        unfold commitL TE.s
        rw [List.map_map]
        rfl⟩
      have b9_ := (blk_cell HX.out 9).trans (rfl : _ = some (.slice A9 x.f7.length c9 : Value))
      go_wp2_with fail
      refine (clone_ok A9 x.f7.length c9 base x.f7 wr (Kd.C_below HC9.out (by rw [← HB0.out]; exact HB.out)) HX7.out HBS.out).mono ?_
      rintro e_ w4 ⟨Ac, cc, n0, rfl, hb_, ho_, hn_, hf_⟩
      clear b9_
      have HVl := HV
      have HBl := HB
      have HBSl := HBS
      have HN0 := Aside0.mk hn_
      have HFR := Aside0.mk hf_
      have hE := HV.out.task HI.out
      have hcell4 := blk_below hE.cell hb_
      have HTC := Aside0.mk (blk_put hcell4 3 (.slice Ac x.f7.length cc) rfl)
      have HWA : Aside0 (Chg wr (w4.setCell ⟨e.g, 3, none⟩ (.slice Ac x.f7.length cc)) fun k => k = e.g) := ⟨@Chg.set wr w4 (fun k => k = e.g) (Chg.of_below hb_) ⟨e.g, 3, none⟩ rfl _⟩
      have HRO : Aside0 ((w4.setCell ⟨e.g, 3, none⟩ (.slice Ac x.f7.length cc)).ownsRow base 3 1 (.slice Ac x.f7.length cc) x.f7.length (cellsI x.f7)) := ⟨own_kept ho_ fun k hk => by
        obtain ⟨cur, hc⟩ := own_block ho_ hk
        exact Below.heap_setCell _ _ _ k (blk_types hc hcell4 (by decide))⟩
      have HRQ : Aside0 ((w4.setCell ⟨e.g, 3, none⟩ (.slice Ac x.f7.length cc)).ownsRow base 3 1 e.vq e.t.f4.length (cellsI e.t.f4)) := ⟨own_kept (own_below hE.rq hb_) fun k hk => by
        obtain ⟨cur, hc⟩ := own_block (own_below hE.rq hb_) hk
        exact Below.heap_setCell _ _ _ k (blk_types hc hcell4 (by decide))⟩
      have HNQ : Aside0 (some e.g ≠ e.vq.ownBlock) := ⟨fun hh => by
        obtain ⟨cur, hc⟩ := own_block hE.rq hh
        exact blk_types hE.cell hc (by decide) rfl⟩
      obtain ⟨Aq, cq, hvq, _, _⟩ := slice_of hE.rq
      have HVQ := Aside0.mk hvq
      replace HX := Aside0.mk (blk_far (blk_below HX.out hb_) (p := ⟨e.g, 3, none⟩) (blk_types (blk_below HX.out hb_) hcell4 (by decide)) (.slice Ac x.f7.length cc))
      replace HB := Aside0.mk (Chg.below HB.out HWA.out HBS.out (fun k hk => by rw [hk]; exact hE.gb))
      replace HBS := Aside0.mk (Nat.le_trans HBS.out HWA.out.size)
      have z_ := (blk_cell hcell4 3).trans (rfl : _ = some (e.vo : Value))
      have f_ := blk_frozen hcell4 3
      clear hb_ ho_ hn_ hf_ hE hvq hcell4
      go_upto_region 7 with fail
      clear z_ f_
      generalize w4.setCell ⟨e.g, 3, none⟩ (.slice Ac x.f7.length cc) = w5 at HTC HWA HRO HRQ HX HB HBS ⊢
      refine start_ (n := 13) (S := fun w' => Below w5.heap.size w5 w') (ds := [8, 12]) #[false, false, false, false, false, false, false, false, false, false, false, false, false] (by kernel_rfl) rfl rfl (below_drew (Below.refl _ _)) (fun hHeld => ?_)
      refine pure_ (i := 0) (N := some 29) (v := ?_) (a' := ?_) #[true, false, false, false, false, false, false, false, false, false, false, false, false] rfl rfl (by kernel_rfl) (fun _ _ _ h => h) (Or.inl ⟨by rfl, ?_⟩) ?_ ?_
      rotate_left
      · intro w'
        go_simp
        with_reducible rfl
      rotate_left
      · simp only [Act.put, List.setIfInBounds_toArray, List.set_cons_zero, List.set_cons_succ, i64_w, i32_w]
        rfl
      refine pure_ (i := 1) (N := some 30) (v := ?_) (a' := ?_) #[true, true, false, false, false, false, false, false, false, false, false, false, false] rfl rfl (by kernel_rfl) (fun _ _ _ h => h) (Or.inl ⟨by rfl, ?_⟩) ?_ ?_
      rotate_left
      · intro w'
        go_simp
        with_reducible rfl
      rotate_left
      · simp only [Act.put, List.setIfInBounds_toArray, List.set_cons_zero, List.set_cons_succ, i64_w, i32_w]
        rfl
      refine pure_ (i := 2) (N := some 31) (v := ?_) (a' := ?_) #[true, true, true, false, false, false, false, false, false, false, false, false, false] rfl rfl (by kernel_rfl) (fun _ _ _ h => h) (Or.inl ⟨by rfl, ?_⟩) ?_ ?_
      rotate_left
      · intro w'
        go_simp
        with_reducible rfl
      rotate_left
      · simp only [Act.put, List.setIfInBounds_toArray, List.set_cons_zero, List.set_cons_succ, i64_w, i32_w]
        rfl
      refine pure_ (i := 3) (N := some 32) (v := ?_) (a' := ?_) #[true, true, true, true, false, false, false, false, false, false, false, false, false] rfl rfl (by kernel_rfl) (fun _ _ _ h => h) (Or.inl ⟨by rfl, ?_⟩) ?_ ?_
      rotate_left
      · intro w'
        go_simp
        with_reducible rfl
      rotate_left
      · simp only [Act.put, List.setIfInBounds_toArray, List.set_cons_zero, List.set_cons_succ, i64_w, i32_w]
        rfl
      refine pure_ (i := 4) (N := some 33) (v := ?_) (a' := ?_) #[true, true, true, true, true, false, false, false, false, false, false, false, false] rfl rfl (by kernel_rfl) (fun _ _ _ h => h) (Or.inl ⟨by rfl, ?_⟩) ?_ ?_
      rotate_left
      · intro w'
        go_simp
        with_reducible rfl
      rotate_left
      · simp only [Act.put, List.setIfInBounds_toArray, List.set_cons_zero, List.set_cons_succ, i64_w, i32_w]
        rfl
      refine pure_ (i := 6) (N := some 35) (v := ?_) (a' := ?_) #[true, true, true, true, true, false, true, false, false, false, false, false, false] rfl rfl (by kernel_rfl) (fun _ _ _ h => h) (Or.inl ⟨by rfl, ?_⟩) ?_ ?_
      rotate_left
      · intro w'
        go_simp
        with_reducible rfl
      rotate_left
      · simp only [Act.put, List.setIfInBounds_toArray, List.set_cons_zero, List.set_cons_succ, i64_w, i32_w]
        rfl
      refine take_ (i := 5) (N := some 34) (v := ?_) (a' := ?_) #[true, true, true, true, true, true, true, false, false, false, false, false, false] rfl rfl (by kernel_rfl) (fun _ _ _ h => h) (Or.inl ⟨by rfl, ?_⟩) hHeld ?_ ?_
      rotate_left
      · intro w' hS
        have c_ := (blk_cell (blk_below HTC.out hS) 4).trans (rfl : _ = some (e.vq : Value))
        rw [HVQ.out] at c_
        go_simp
        with_reducible rfl
      rotate_left
      · simp only [Act.put, List.setIfInBounds_toArray, List.set_cons_zero, List.set_cons_succ, i64_w, i32_w]
        rfl
      refine take_ (i := 7) (N := some 36) (v := ?_) (a' := ?_) #[true, true, true, true, true, true, true, true, false, false, false, false, false] rfl rfl (by kernel_rfl) (fun _ _ _ h => h) (Or.inl ⟨by rfl, ?_⟩) hHeld ?_ ?_
      rotate_left
      · intro w' hS
        have c_ := (blk_cell (blk_below HX.out hS) 10).trans (rfl : _ = some (.slice A10 x.f8.length c10 : Value))
        go_simp
        with_reducible rfl
      rotate_left
      · simp only [Act.put, List.setIfInBounds_toArray, List.set_cons_zero, List.set_cons_succ, i64_w, i32_w]
        rfl
      refine last_ (i := 8) (N := some 37) #[true, true, true, true, true, true, true, true, true, false, false, false, false] rfl rfl (by kernel_rfl) (by simp) (fun K hK => ?_)
      obtain ⟨vq_, w6, hr_, ho_, hg_, hat_, Aq2, cq2, rfl⟩ := app_C 39 rfl w5.drew base e.t.f4.length e.vq (cellsI e.t.f4) (own_below HRQ.out hHeld) A10 x.f8.length c10 x.f8 (Kd.C_below HC10.out (by rw [← HB0.out]; exact below_on HB.out HBS.out hHeld)) HX8.out (Nat.le_trans HBS.out hHeld.size)
      have hEND := commit_end (l7 := x.f7) (l8 := x.f8) HVl.out HI.out HBl.out HBSl.out (HWA.out.trans (Chg.of_below hHeld)) (blk_below HTC.out hHeld) (own_below HRO.out hHeld) HN0.out HFR.out hg_ hat_ ho_
      have HEND := Aside0.mk hEND
      have HG6 := Aside0.mk hg_
      have HT6 := Aside0.mk (blk_grown (blk_below HTC.out hHeld) hg_ HNQ.out)
      have HS6 := Aside0.mk (Nat.le_trans (Nat.le_trans HBS.out hHeld.size) hg_.size)
      have HK6 := Aside0.mk (commit_keep HVl.out HI.out HWA.out hHeld hg_ (.slice Aq2 (e.t.f4.length + x.f8.length) cq2))
      rw [HVQ.out] at hr_
      refine value_ (w1 := w6) (v := .slice Aq2 (e.t.f4.length + x.f8.length) cq2) (by rfl) rfl (append_exec (.tmp 34) (.tmp 36) 39 rfl rfl rfl hr_) ?_
      clear hEND hr_ ho_ hg_ hat_ hHeld
      refine hK.out _ _ ?_
      clear hK K
      refine norm_ (a' := ?_) ?_ ?_
      rotate_left
      · show Act.put _ (some 37) _ = _
        simp only [Act.put, List.setIfInBounds_toArray, List.set_cons_zero, List.set_cons_succ, i64_w, i32_w]
        rfl
      refine pure_ (i := 9) (N := some 38) (v := ?_) (a' := ?_) #[true, true, true, true, true, true, true, true, true, true, false, false, false] rfl rfl (by kernel_rfl) (fun _ _ _ h => h) (Or.inl ⟨by rfl, ?_⟩) ?_ ?_
      rotate_left
      · intro w'
        go_simp
        with_reducible rfl
      rotate_left
      · simp only [Act.put, List.setIfInBounds_toArray, List.set_cons_zero, List.set_cons_succ, i64_w, i32_w]
        rfl
      refine pure_ (i := 10) (N := some 39) (v := ?_) (a' := ?_) #[true, true, true, true, true, true, true, true, true, true, true, false, false] rfl rfl (by kernel_rfl) (fun _ _ _ h => h) (Or.inl ⟨by rfl, ?_⟩) ?_ ?_
      rotate_left
      · intro w'
        go_simp
        with_reducible rfl
      rotate_left
      · simp only [Act.put, List.setIfInBounds_toArray, List.set_cons_zero, List.set_cons_succ, i64_w, i32_w]
        rfl
      refine pure_ (i := 11) (N := some 40) (v := ?_) (a' := ?_) #[true, true, true, true, true, true, true, true, true, true, true, true, false] rfl rfl (by kernel_rfl) (fun _ _ _ h => h) (Or.inl ⟨by rfl, ?_⟩) ?_ ?_
      rotate_left
      · intro w'
        go_simp
        with_reducible rfl
      rotate_left
      · simp only [Act.put, List.setIfInBounds_toArray, List.set_cons_zero, List.set_cons_succ, i64_w, i32_w]
        rfl
      refine last_ (i := 12) (N := none) #[true, true, true, true, true, true, true, true, true, true, true, true, true] rfl rfl (by kernel_rfl) (by simp) (fun K hK => ?_)
      have z_ := (blk_cell HT6.out 4).trans (rfl : _ = some (e.vq : Value))
      have f_ := blk_frozen HT6.out 4
      refine skip_ (w1 := w6.setCell ⟨e.g, 4, none⟩ (.slice Aq2 (e.t.f4.length + x.f8.length) cq2)) (by rfl) rfl (by first | (go_simp; done) | (go_simp; rfl)) ?_
      clear z_ f_
      refine hK.out _ _ ?_
      clear hK K
      refine done_ (by kernel_rfl) ?_

      go_wp2
      go_end0
      exact ⟨rfl, HEND.out.2, Nat.le_trans HS6.out (by simp), (HK.out.mono fun _ h => .inl h).trans HK6.out, M', ⟨_, _, HEND.out.1⟩, HME.out⟩
end Go.Proofs.Ytmnglonjekegcaa.Vw
