/- (c03) The contract of the document's own reader of numbers (tidemillref01.ReadInts). -/
import Derived.Test.YtedbgkbjbfdnlaaRcRd
import Derived.Test.YtedbgkbjbfdnlaaRcIs
import Derived.Deep.QuietTactic
import Derived.BigQuiet
import Derived.Deep.RegionWith
namespace Go.Proofs.Ytedbgkbjbfdnlaa.Pk
open Go Go.RowKit Go.Proofs.YtedbgkbjbfdnlaaW.PrintWords Go.Proofs.YtedbgkbjbfdnlaaW.PrintLast Go.Proofs.YtedbgkbjbfdnlaaW.PrintMore
set_option linter.unusedVariables false
set_option linter.unusedSimpArgs false
def RLPost (w0 : World) (m : Int) (xs : List Int) (w : World) (e : Ending) (w' : World) : Prop :=
  ∃ v A2 c2, e = .returned (.tuple #[v, .slice A2 (rdL m xs).2.2.length c2, .int .i64 (rdL m xs).2.1]) ∧ (Kd.int .i64).R 3 w' w.heap.size (fun _ => True) v (rdL m xs).1 ∧ (Kd.int .u8).C w0 A2 (rdL m xs).2.2.length (rdL m xs).2.2 ∧ (rdL m xs).2.2.length ≤ c2 ∧ Below w.heap.size w w'
theorem RLPost.bad {w0 w w' : World} {m : Int} {xs : List Int} {A : Option Addr} {c : Nat} {e : Int} (h : rdL m xs = ([], e, xs)) (hC : (Kd.int .u8).C w0 A xs.length xs) (hc : xs.length ≤ c) (hB : Below w.heap.size w w') : RLPost w0 m xs w (.returned (.tuple #[.slice none 0 0, .slice A xs.length c, .int .i64 e])) w' := by
  unfold RLPost
  rw [h]
  exact ⟨_, _, _, rfl, Kd.R_nil _ _ _ _ _, hC, hc, hB⟩
theorem RLPost.good {w0 w w' : World} {m : Int} {xs l r : List Int} {v : Value} {A : Option Addr} {c : Nat} (h : rdL m xs = (l, 0, r)) (hR : (Kd.int .i64).R 3 w' w.heap.size (fun _ => True) v l) (hC : (Kd.int .u8).C w0 A r.length r) (hc : r.length ≤ c) (hB : Below w.heap.size w w') : RLPost w0 m xs w (.returned (.tuple #[v, .slice A r.length c, .int .i64 0])) w' := by
  unfold RLPost
  rw [h]
  exact ⟨_, _, _, rfl, hR, hC, hc, hB⟩
structure RLRel (w0 w wg : World) (N : Nat) (r0 : List Int) (i : Nat) (l r : List Int) (v : Value) (A : Option Addr) (c : Nat) (wr : World) : Prop where
  row : (Kd.int .i64).R 3 wr wg.heap.size (fun _ => True) v l
  reads : (Kd.int .u8).C w0 A r.length r
  room : r.length ≤ c
  byt : Byt r
  most : i ≤ N
  len : l.length = i
  inv : InvI N r0 l (N - i) r
  below : Below wg.heap.size wg wr
set_option maxHeartbeats 4000000 in
set_option maxRecDepth 100000 in
theorem refints (w0 : World) (A0 : Option Addr) (c0 : Nat) (xs : List Int) (m : Int) (w : World) (hr : (Kd.int .u8).C w0 A0 xs.length xs) (hc : xs.length ≤ c0) (hby : Byt xs) (hb : Below w0.heap.size w0 w) (hl : m ≤ 1048576) (m0 : -9223372036854775808 ≤ m) (m1 : m ≤ 9223372036854775807) :
    Calls Try.prog 39 #[.slice A0 xs.length c0, .int .i64 m] w (RLPost w0 m xs w) := by
  have HC := Aside0.mk hr
  have HBY := Aside0.mk hby
  have HB0 := Aside0.mk hb
  have HB := Aside0.mk (Below.refl w.heap.size w)
  have HX := Aside0.mk (rdU_range hby)
  have HXL := Aside0.mk (rdU_len xs)
  have HRBY := Aside0.mk (rdU_byt hby)
  have HL := Aside0.mk hl
  have hm : xs.length ≤ 9223372036854775807 := hr.2.1
  clear hr hby hb hl
  obtain ⟨n, hn⟩ : ∃ n, Aside0 ((rdU xs).1 = n) := ⟨_, ⟨rfl⟩⟩
  obtain ⟨e, he⟩ : ∃ n, Aside0 ((rdU xs).2.1 = n) := ⟨_, ⟨rfl⟩⟩
  obtain ⟨r, hr⟩ : ∃ n, Aside0 ((rdU xs).2.2 = n) := ⟨_, ⟨rfl⟩⟩
  rw [hn.out] at HX
  rw [hr.out] at HXL HRBY
  go_enter Try.func39, Try.ntmps39
  go_wp2_with fail
  refine (refuint w0 A0 c0 xs _ HC.out hc HBY.out HB0.out).mono ?_
  rintro e1 w1 ⟨A1, c1, he1, hC1, hc1, hb_⟩
  rw [hn.out, he.out, hr.out] at he1
  rw [hr.out] at hC1 hc1
  subst he1
  have HC1 := Aside0.mk hC1
  have hrl := HXL.out
  have n0_ := Aside0.mk (below_step HB.out hb_); clear HB; have HB := n0_; clear n0_; clear hC1 hb_
  by_cases h1 : e = 0
  · have h1b : (e != 0) = false := by simpa using h1
    by_cases h2 : m < 0 ∨ m < n
    · have hfin : Aside0 (rdL m xs = ([], 2, xs)) := ⟨by unfold rdL; rw [he.out, if_neg (by simpa using h1), hn.out, if_pos h2]⟩
      have h3 : decide (m < 0) = true ∨ (decide (m < 0) = false ∧ decide (m < n) = true ∧ IntKind.u64.wrap m = m) := by
        by_cases h : m < 0
        · exact .inl (decide_eq_true h)
        · exact .inr ⟨decide_eq_false h, decide_eq_true (by omega), wrap_u64 (by omega) (by omega)⟩
      clear h1 h2
      rcases h3 with h3 | ⟨h3, h4, h5⟩
      all_goals
        go_wp2
        go_ret3
        exact RLPost.bad hfin.out HC.out hc (below_alloc HB.out _)
    · have hfin : Aside0 (rdL m xs = if (rdIs n.toNat r).2.1 ≠ 0 then ([], (rdIs n.toNat r).2.1, xs) else rdIs n.toNat r) := ⟨by unfold rdL; rw [he.out, if_neg (by simpa using h1), hn.out, if_neg h2, hr.out]⟩
      have n0 : 0 ≤ n := HX.out.1
      have h3 : decide (m < 0) = false := by simp; omega
      have h4 : decide (m < n) = false := by simp; omega
      have h5 : IntKind.u64.wrap m = m := wrap_u64 (by omega) (by omega)
      obtain ⟨N, rfl⟩ := Int.eq_ofNat_of_zero_le n0
      rw [Int.toNat_natCast] at hfin
      have hN : N ≤ 9223372036854775807 := by omega
      have HNM : Aside0 (N ≤ 1048576) := ⟨by have := HL.out; omega⟩
      clear h1 h2
      go_wp2_with fail
      have hg0 : (w1.alloc (.cells #[.int .u64 (N : Int), .slice A1 r.length c1, .int .i64 e] 75)).cell? ⟨w1.heap.size, 0, none⟩ = some (.int .u64 (N : Int)) := cell_new _ _ _ _ _ rfl
      have HBW := Aside0.mk (below_alloc HB.out (.cells #[.int .u64 (N : Int), .slice A1 r.length c1, .int .i64 e] 75))
      generalize w1.alloc (.cells #[.int .u64 (N : Int), .slice A1 r.length c1, .int .i64 e] 75) = wg at *
      go_loopw [8, 9, 10] (fun v8 v9 v10 wr => ∃ (i : Nat) (l r' : List Int) (A2 : Option Addr) (c2 : Nat), v9 = .slice A2 r'.length c2 ∧ v10 = .int .u64 (i : Int) ∧ Aside0 (RLRel w0 w wg N r i l r' v8 A2 c2 wr)) (fun _ _ v10 _ => N - (intOf v10).toNat)
      case atStart => exact ⟨0, [], r, A1, c1, rfl, rfl, ⟨⟨Kd.R_nil _ _ _ _ _, HC1.out, hc1, HRBY.out, by omega, by simp, invI_zero _ _, Below.refl _ _⟩⟩⟩
      case round =>
        obtain ⟨i, l, r', A2, c2, rfl, rfl, HRL⟩ := hrel
        have hgr := cell_below HRL.out.below hg0
        have hcr := HRL.out.room
        have HBR := Aside0.mk (below_step HBW.out HRL.out.below)
        by_cases hi : i < N
        · have hib : decide ((i : Int) < (N : Int)) = true := by simpa using hi
          have HX2 := Aside0.mk (rdU_range HRL.out.byt)
          have HXL2 := Aside0.mk (rdU_len r')
          have HBY2 := Aside0.mk (rdU_byt HRL.out.byt)
          have HM2 := Aside0.mk HRL.out.reads.2.1
          obtain ⟨n2, hn2⟩ : ∃ n, Aside0 ((rdU r').1 = n) := ⟨_, ⟨rfl⟩⟩
          obtain ⟨e2, he2⟩ : ∃ n, Aside0 ((rdU r').2.1 = n) := ⟨_, ⟨rfl⟩⟩
          obtain ⟨r2, hr2⟩ : ∃ n, Aside0 ((rdU r').2.2 = n) := ⟨_, ⟨rfl⟩⟩
          obtain ⟨s, HS⟩ : ∃ s, Aside0 (sgn n2 = s) := ⟨_, ⟨rfl⟩⟩
          rw [hn2.out] at HX2
          rw [hr2.out] at HXL2 HBY2
          go_wp2_with fail
          refine (refuint w0 A2 c2 r' _ HRL.out.reads hcr HRL.out.byt (below_step HB0.out HBR.out)).mono ?_
          rintro e3 w2 ⟨A3, c3, he3, hC3, hc3, hb_⟩
          rw [hn2.out, he2.out, hr2.out] at he3
          rw [hr2.out] at hC3 hc3
          subst he3
          have HC3 := Aside0.mk hC3
          have HO := Aside0.mk (Kd.R_below HRL.out.row hb_)
          have HBG := Aside0.mk (below_step HRL.out.below hb_)
          clear hC3 hb_
          by_cases hz : e2 = 0
          · subst hz
            go_wp2_with fail
            refine (signed_any n2 _ HX2.out.1 HX2.out.2).mono ?_
            rintro e4 w3 ⟨rfl, hb_⟩
            rw [HS.out]
            have hx1 := cell_below hb_ (cell_new w2 #[.int .u64 n2, .slice A3 r2.length c3, .int .i64 0] 75 1 (.slice A3 r2.length c3) rfl)
            have HLT := Aside0.mk (Kd.Q_lt (Kd.Q_of_R HO.out))
            have HSZ : Aside0 (w2.heap.size < w3.heap.size) := ⟨Nat.lt_of_lt_of_le (by simp) hb_.size⟩
            replace hb_ := below_step (below_alloc (Below.refl _ _) _) hb_
            have n0_ := Aside0.mk (below_step HBG.out hb_); have n1_ := Aside0.mk (Kd.R_below HO.out hb_); clear HBG; clear HO; have HBG := n0_; have HO := n1_; clear n0_ n1_; clear hb_
            obtain ⟨s0, s1⟩ : -9223372036854775808 ≤ s ∧ s ≤ 9223372036854775807 := by
              rw [← HS.out]
              exact sgn_range HX2.out.1 HX2.out.2
            by_cases hw : s < -2147483648 ∨ 2147483647 < s
            · have hw' : decide (s < -2147483648) = true ∨ (decide (s < -2147483648) = false ∧ decide (2147483647 < s) = true) := by
                by_cases h : s < -2147483648
                · exact .inl (decide_eq_true h)
                · exact .inr ⟨decide_eq_false h, decide_eq_true (by omega)⟩
              have hbad := Aside0.mk (invI_wide (k := N - i - 1) (by rw [show N - i - 1 + 1 = N - i by omega]; exact HRL.out.inv) he2.out (by rw [hn2.out, HS.out]; exact hw))
              have hfin2 : Aside0 (rdL m xs = ([], 2, xs)) := ⟨by rw [hfin.out, hbad.out]; rfl⟩
              clear hw
              rcases hw' with hw' | ⟨hw', hw''⟩
              all_goals
                go_wp2
                go_ret3
                exact RLPost.bad hfin2.out HC.out hc (below_step HBW.out HBG.out)
            · have hw1 : decide (s < -2147483648) = false := decide_eq_false (by omega)
              have hw2 : decide (2147483647 < s) = false := decide_eq_false (by omega)
              have hnext := Aside0.mk (invI_next (k := N - (i + 1)) (by rw [show N - (i + 1) + 1 = N - i by omega]; exact HRL.out.inv) he2.out (by rw [hn2.out, HS.out]; omega) (by rw [hn2.out, HS.out]; omega))
              rw [hn2.out, HS.out, hr2.out] at hnext
              have HLS := Aside0.mk (rdU_less HRL.out.byt he2.out)
              rw [hr2.out] at HLS
              clear hw
              go_wp2_with (((with_reducible refine gate_builtin (b := .append) (xs := #[.tmp 57, .tmp 59]) rfl ?_); at_builtin; refine Kd.R_append (Kd.int .i64) (w0 := wg) wg.heap.size rfl (.tmp 57) (.tmp 59) 24 3 (.int .i64 0) 8 rfl Try.underlying24 infoInt rfl (by decide) (by omega) u8 l s [.int .i64 s] (fun _ => True) (fun _ => False) rfl rfl ?aP (fun _ hk => hk.elim) (fun _ _ => trivial) ?aO ?aB ?aS ?aL ?_; (try (case aP => exact rfl)); (case aB => exact HBG.out); (case aO => exact (by (with_reducible repeat (first | apply Kd.R_alloc | apply Kd.R_drewN | apply Kd.R_drew)); exact HO.out)); (case aS => exact (below_size HBG.out)); (case aL => have := HRL.out.len; have := HRL.out.most; have := HNM.out; omega); intro v60 w60 ho_ hb hg hat; have n0_ := Aside0.mk (ho_); clear HO; have HO := n0_; clear n0_; have HB3 := Aside0.mk hb; have hx2 := World.grownBy.cell hg hx1 (fun h => Nat.lt_irrefl _ (HLT.out _ h.symm)); clear ho_ hb hg hat))
              go_roundw
              case rel => exact ⟨i + 1, _, r2, _, _, rfl, by go_num, ⟨⟨HO.out, HC3.out, hc3, HBY2.out, by omega, by have h1 := HRL.out.len; have h2 := HLS.out; simp only [List.length_append, List.length_cons, List.length_nil]; omega, hnext.out, HB3.out⟩⟩⟩
              case measure => simp [intOf]; omega
          · have hzb : (e2 != 0) = true := by simpa using hz
            have hbad := Aside0.mk (invI_bad (k := N - i - 1) (by rw [show N - i - 1 + 1 = N - i by omega]; exact HRL.out.inv) (by rw [he2.out]; exact hz))
            rw [he2.out] at hbad
            have hfin2 : Aside0 (rdL m xs = ([], e2, xs)) := ⟨by rw [hfin.out, hbad.out, if_pos hz]⟩
            clear hz
            go_wp2_with fail
            go_quiet (fail)
            go_wp2
            go_ret3
            exact RLPost.bad hfin2.out HC.out hc (pw_below_drewN (below_alloc (below_step HBW.out HBG.out) _) _)
        · have hib : decide ((i : Int) < (N : Int)) = false := by simp; omega
          have HI : Aside0 (N - i = 0) := ⟨by omega⟩
          have hend := Aside0.mk (HRL.out.inv)
          rw [HI.out] at hend
          have hfin2 : Aside0 (rdL m xs = (l, 0, r')) := ⟨by rw [hfin.out, invI_end hend.out, if_neg (by simp)]⟩
          go_wp2
          go_ret3
          exact RLPost.good hfin2.out (Kd.R_lower HRL.out.row HBW.out.size) HRL.out.reads hcr HBR.out
  · have h1b : (e != 0) = true := by simpa using h1
    have hfin : Aside0 (rdL m xs = ([], e, xs)) := ⟨by unfold rdL; rw [he.out, if_pos h1]⟩
    clear h1
    go_wp2_with fail
    go_quiet (fail)
    go_wp2
    go_ret3
    exact RLPost.bad hfin.out HC.out hc (pw_below_drewN (below_alloc HB.out _) _)
end Go.Proofs.Ytedbgkbjbfdnlaa.Pk
