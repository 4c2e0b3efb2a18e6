/- The statement PackMany: its body, walked. -/
import Derived.Test.YtcempelkafpnaaaLawA
namespace Go.Proofs.Ytcempelkafpnaaa.Pk
open Go Go.RowKit Go.Proofs.YtcempelkafpnaaaW.PrintWords Go.Proofs.YtcempelkafpnaaaW.PrintLast Go.Proofs.YtcempelkafpnaaaW.PrintMore
set_option linter.unusedVariables false
set_option linter.unusedSimpArgs false
theorem rd_at {l : List Int} {k : Nat} (h : k < l.length) : l[k]? = some (rd l k) := by
  unfold rd
  rw [List.getElem?_eq_getElem h, List.getD_eq_getElem?_getD, List.getElem?_eq_getElem (by simpa using h)]
  simp
set_option maxHeartbeats 1000000 in
set_option maxRecDepth 100000 in
theorem many_ok (A0 : Option Addr) (c0 : Nat) (l : List Int) (w : World) (hr : (Kd.int .u64).C w A0 l.length l) (hc : l.length ≤ c0) (hl : l.length ≤ 140737488351232) (hby : ∀ n ∈ l, 0 ≤ n ∧ n < 18446744073709551616) :
    Calls Try.prog 5 #[.slice A0 l.length c0] w fun e w' => e = .returned (.bool true) ∧ Below w.heap.size w w' := by
  have HC := Aside0.mk hr
  have HBY := Aside0.mk hby
  obtain ⟨N, HN⟩ : ∃ N, Aside0 (N = min l.length 200) := ⟨_, ⟨rfl⟩⟩
  have hN2 : N ≤ 200 := by rw [HN.out]; omega
  have hNl : N ≤ l.length := by rw [HN.out]; omega
  have HNE : Aside0 (N = l.length ∨ N = 200) := ⟨by rw [HN.out]; omega⟩
  have HLEN := Aside0.mk (fun (k : Nat) (hk : k ≤ 200) => show (encs (l.take k)).length ≤ 2000 by
    have h := encs_len (l := l.take k) (fun n hn => (hby n (List.mem_of_mem_take hn)).2)
    rw [List.length_take] at h
    omega)
  have HIT := Aside0.mk (fun (k : Nat) (hk : k < l.length) => hby _ (List.mem_of_getElem? (rd_at hk)))
  clear hr hby
  have HB := Aside0.mk (Below.refl w.heap.size w)
  go_enter Try.func5, Try.ntmps5
  go_wp2_with fail
  refine (shown_ok _).mono ?_
  rintro e w1 ⟨rfl, hb_⟩
  have n0_ := Aside0.mk (below_step HB.out hb_); clear HB; have HB := n0_; clear n0_; clear hb_
  go_wp2_with fail
  go_loopw [4, 5] (fun v4 v5 wr => ∃ k : Nat, k ≤ N ∧ v5 = .int .i64 (k : Int) ∧ Aside0 ((Kd.int .u8).R 5 wr w.heap.size (fun _ => True) v4 (encs (l.take k))) ∧ Aside0 (Below w.heap.size w wr)) (fun _ v5 _ => N - (intOf v5).toNat)
  case atStart => exact ⟨0, by omega, rfl, ⟨by rw [List.take_zero]; exact Kd.R_nil _ _ _ _ _⟩, HB⟩
  case round =>
    clear HB
    obtain ⟨k, hk, rfl, HV, HB⟩ := hrel
    by_cases hlt : k < N
    · have h1 : decide ((k : Int) < (l.length : Int)) = true := by simp; omega
      have h1b : decide (k < l.length) = true := by simp; omega
      have h2 : decide ((k : Int) < 200) = true := by simp; omega
      obtain ⟨ad, rfl, hx⟩ := Kd.at_int (Kd.C_below HC.out HB.out) k (by omega) (by omega)
      have hx2 : wr.cell? (ad.add k) = some (.int .u64 (rd l k)) := hx
      obtain ⟨A4, c4, rfl, hc4, hC4⟩ := Kd.R_reads HV.out
      have HC4 := Aside0.mk hC4
      have HR := Aside0.mk (HIT.out k (by omega))
      have HE := Aside0.mk (encs_take (rd_at (l := l) (k := k) (by omega)))
      have HL := Aside0.mk (HLEN.out k (by omega))
      clear hC4 hx
      generalize rd l k = n at *
      go_wp2_with (go_at_call 14; refine (puint A4 c4 (encs (l.take k)) n _ HC4.out hc4 HR.out.1 HR.out.2 (by have := HL.out; omega)).mono ?_; rintro e w2 ⟨v2, rfl, hr_, hb_⟩; rw [← HE.out] at hr_; have HV2 := Aside0.mk (Kd.R_lower hr_ (below_size HB.out)); have n0_ := Aside0.mk (below_step HB.out hb_); clear HB; have HB := n0_; clear n0_; clear hr_ hb_)
      go_roundw
      case rel => exact ⟨k + 1, by omega, by go_num, HV2, HB⟩
      case measure => simp [intOf]; omega
    · obtain rfl : k = N := by omega
      have h12 : (decide ((k : Int) < (l.length : Int)) = false ∧ decide (k < l.length) = false) ∨ (decide ((k : Int) < (l.length : Int)) = true ∧ decide (k < l.length) = true ∧ decide ((k : Int) < 200) = false) := by
        rcases HNE.out with h | h
        · exact .inl ⟨by simp; omega, by simp; omega⟩
        · by_cases h' : k < l.length
          · exact .inr ⟨by simp; omega, by simp; omega, by simp; omega⟩
          · exact .inl ⟨by simp; omega, by simp; omega⟩
      obtain ⟨A4, c4, rfl, hc4, hC4⟩ := Kd.R_reads HV.out
      have HC4 := Aside0.mk hC4
      have HL := Aside0.mk (HLEN.out k (by omega))
      clear hC4
      rcases h12 with ⟨h1, h1b⟩ | ⟨h1, h1b, h2⟩
      all_goals
        go_wp2_with fail
        refine (from_any A4 c4 (encs (l.take k)) _ HC4.out (by have := HL.out; omega) (encs_byt _)).mono ?_
        rintro e w3 ⟨b, rfl, hr_, hb_⟩
        have HR := Aside0.mk (hr_.lower (below_size HB.out))
        have n0_ := Aside0.mk (below_step HB.out hb_); clear HB; have HB := n0_; clear n0_; clear hr_ hb_
        go_wp2_with fail
        go_loopw [7] (fun v7 wr => ∃ j : Nat, j ≤ k ∧ v7 = .int .i64 (j : Int) ∧ Aside0 (Rdr wr w.heap.size b (encs ((l.take k).drop j))) ∧ Aside0 (Below w.heap.size w wr)) (fun v7 _ => k - (intOf v7).toNat)
        case atStart => exact ⟨0, by omega, rfl, HR, HB⟩
        case round =>
          clear HB HR
          obtain ⟨j, hj, rfl, HR, HB⟩ := hrel
          by_cases hjk : j < k
          · have g1 : decide ((j : Int) < (l.length : Int)) = true := by simp; omega
            have g1b : decide (j < l.length) = true := by simp; omega
            have g2 : decide ((j : Int) < 200) = true := by simp; omega
            obtain ⟨ad, rfl, hx⟩ := Kd.at_int (Kd.C_below HC.out HB.out) j (by omega) (by omega)
            have hx2 : wr.cell? (ad.add j) = some (.int .u64 (rd l j)) := hx
            have HX : Aside0 (∀ W : World, Below w.heap.size w W → W.cell? (ad.add j) = some (.int .u64 (rd l j))) := ⟨fun W hW => by
              obtain ⟨ad2, e2, h⟩ := Kd.at_int (Kd.C_below HC.out hW) j (by omega) (by omega)
              cases e2
              exact h⟩
            have HRN := Aside0.mk (HIT.out j (by omega))
            have HE : Aside0 (encs ((l.take k).drop j) = enc (rd l j) ++ encs ((l.take k).drop (j + 1))) := ⟨by
              rw [← encs_cons]
              congr 1
              exact drop_at (by rw [List.getElem?_take, if_pos hjk]; exact rd_at (by omega))⟩
            clear hx
            generalize rd l j = n at *
            have HF := Aside0.mk (rdU_enc HRN.out.1 HRN.out.2 (encs ((l.take k).drop (j + 1))))
            rw [HE.out] at HR
            have hx3 : wr.cell? (ad.add j) = some (.int .u64 n) := hx2
            go_wp2_with (go_at_call 13; refine (uint_some b _ _ _ HR.out).mono ?_; rintro e w4 ⟨he_, hn_, hg_⟩; rw [HF.out] at he_ hn_; subst he_; have HB4 := Aside0.mk (HR.out.from HB.out (below_size HB.out) hg_); have HR4 := Aside0.mk hn_; have hx4 : w4.cell? (ad.add j) = some (.int .u64 n) := (HX.out _ HB4.out); clear hn_ hg_)
            go_roundw
            case rel => exact ⟨j + 1, by omega, by go_num, HR4, HB4⟩
            case measure => simp [intOf]; omega
          · obtain rfl : j = k := by omega
            have HZ : Aside0 (encs ((l.take j).drop j) = []) := ⟨by rw [List.drop_of_length_le (by rw [List.length_take]; omega)]; rfl⟩
            rw [HZ.out] at HR
            go_wp2_with fail
            refine (uint_some b _ _ _ HR.out).mono ?_
            rintro e w5 ⟨he_, hn_, hg_⟩
            rw [rdU_nil] at he_ hn_
            subst he_
            have n0_ := Aside0.mk (HR.out.from HB.out (below_size HB.out) hg_); have n1_ := Aside0.mk (hn_); clear HB; clear HR; have HB := n0_; have HR := n1_; clear n0_ n1_; clear hn_ hg_
            go_wp2_with fail
            refine (left_some b _ _ _ HR.out).mono ?_
            rintro e w6 ⟨rfl, rfl⟩
            go_wp2
            go_ret
            exact ⟨rfl, HB.out⟩
end Go.Proofs.Ytcempelkafpnaaa.Pk
