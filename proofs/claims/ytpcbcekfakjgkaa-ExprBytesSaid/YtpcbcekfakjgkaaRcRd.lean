/- The contract of the document's own reader of a number (tidemillref01.ReadUint). -/
import Derived.Test.YtpcbcekfakjgkaaPkA
namespace Go.Proofs.Ytpcbcekfakjgkaa.Pk
open Go Go.RowKit Go.Proofs.YtpcbcekfakjgkaaW.PrintWords Go.Proofs.YtpcbcekfakjgkaaW.PrintLast Go.Proofs.YtpcbcekfakjgkaaW.PrintMore
set_option linter.unusedVariables false
set_option linter.unusedSimpArgs false
/-- What numbers of seven bits, the lowest first, come to. -/
def val (l : List Int) : Int := l.foldr (fun c r => c % 128 + 128 * r) 0
theorem val_cons (c : Int) (l : List Int) : val (c :: l) = c % 128 + 128 * val l := rfl
theorem val_snoc (l : List Int) (c : Int) : val (l ++ [c]) = val l + 128 ^ l.length * (c % 128) := by
  induction l with
  | nil => simp [val]
  | cons d l ih =>
    rw [List.cons_append, val_cons, val_cons, ih, List.length_cons, Int.pow_succ, Int.mul_add, Int.add_assoc]
    congr 2
    rw [← Int.mul_assoc, Int.mul_comm 128]
theorem val_nonneg (l : List Int) : 0 ≤ val l := by
  induction l with
  | nil => simp [val]
  | cons d l ih =>
    rw [val_cons]
    omega
theorem val_drop (l : List Int) (i : Nat) : val (l.drop i) ≤ val l := by
  induction l generalizing i with
  | nil => simp
  | cons d l ih =>
    cases i with
    | zero => simp
    | succ i =>
      rw [List.drop_succ_cons, val_cons]
      have h1 := ih i
      have h2 := val_nonneg l
      omega
/-- Where the document's count of the leading bytes stands. -/
def RInv (xs : List Int) (k : Nat) : Prop := k ≤ 10 ∧ k ≤ xs.length ∧ (k ≤ 9 → Inv xs k (val (xs.take k))) ∧ (k = 10 → rdU xs = (0, 5, xs))
theorem rinv_zero (xs : List Int) : RInv xs 0 := ⟨by omega, by omega, fun _ => by simpa [val] using inv_zero xs, fun h => by omega⟩
theorem take_snoc {xs : List Int} {k : Nat} {c : Int} (hc : xs[k]? = some c) : xs.take (k + 1) = xs.take k ++ [c] := by
  obtain ⟨h, rfl⟩ := List.getElem?_eq_some_iff.1 hc
  exact List.take_succ_eq_append_getElem h
theorem take_len {xs : List Int} {k : Nat} {c : Int} (hc : xs[k]? = some c) : (xs.take k).length = k := by
  obtain ⟨h, _⟩ := List.getElem?_eq_some_iff.1 hc
  rw [List.length_take]
  omega
theorem rinv_next {xs : List Int} {k : Nat} {c : Int} (h : RInv xs k) (hc : xs[k]? = some c) (hk : k < 10) (hg : 128 ≤ c) : RInv xs (k + 1) := by
  obtain ⟨h1, h2, h3, h4⟩ := h
  have hl := (List.getElem?_eq_some_iff.1 hc).1
  have hI := h3 (by omega)
  have hn : (k = 9 → c % 128 ≤ 1) → Inv xs (k + 1) (val (xs.take (k + 1))) := fun h9 => by
    have := inv_next hI hc hk h9 hg
    rw [take_snoc hc, val_snoc, take_len hc]
    exact this
  refine ⟨by omega, by omega, fun _ => hn (by omega), fun h => ?_⟩
  by_cases h9 : c % 128 ≤ 1
  · have hI2 := hn (fun _ => h9)
    by_cases he : k + 1 = xs.length
    · have := inv_end hI2 he
      rwa [if_pos h] at this
    · exact inv_ten hI2 (c := xs[k + 1]'(by omega)) (List.getElem?_eq_getElem _) h
  · exact inv_nine hI hc (by omega) (by omega)
theorem rinv_good {xs : List Int} {k : Nat} {c : Int} (h : RInv xs k) (hc : xs[k]? = some c) (hk : k < 10) (h0 : 0 ≤ c) (hg : c < 128) (h9 : ¬ (k = 9 ∧ 1 < c)) (hz : ¬ (0 < k ∧ c = 0)) : rdU xs = (val (xs.take (k + 1)), 0, xs.drop (k + 1)) := by
  rw [take_snoc hc, val_snoc, take_len hc, show c % 128 = c by omega]
  exact inv_good (h.2.2.1 (by omega)) hc hk (by omega) h0 hg (by omega)
def RPost (w0 : World) (xs : List Int) (w : World) (e : Ending) (w' : World) : Prop :=
  ∃ A2 c2, e = .returned (.agg #[.int .u64 (rdU xs).1, .slice A2 (rdU xs).2.2.length c2, .int .i64 (rdU xs).2.1]) ∧ (Kd.int .u8).C w0 A2 (rdU xs).2.2.length (rdU xs).2.2 ∧ (rdU xs).2.2.length ≤ c2 ∧ Below w.heap.size w w'
theorem RPost.bad {w0 w w' : World} {xs : List Int} {A : Option Addr} {c : Nat} {e : Int} (h : rdU xs = (0, e, xs)) (hC : (Kd.int .u8).C w0 A xs.length xs) (hc : xs.length ≤ c) (hB : Below w.heap.size w w') : RPost w0 xs w (.returned (.agg #[.int .u64 0, .slice A xs.length c, .int .i64 e])) w' := by
  unfold RPost
  rw [h]
  exact ⟨_, _, rfl, hC, hc, hB⟩
theorem RPost.good {w0 w w' : World} {xs : List Int} {A : Option Addr} {c k : Nat} {n : Int} (h : rdU xs = (n, 0, xs.drop k)) (hC : (Kd.int .u8).C w0 A xs.length xs) (hc : xs.length ≤ c) (hk : k ≤ xs.length) (hB : Below w.heap.size w w') : RPost w0 xs w (.returned (.agg #[.int .u64 n, .slice (if c = k then A else A.map (·.add (k * 1))) (xs.length - k) (c - k), .int .i64 0])) w' := by
  unfold RPost
  rw [h]
  have := C_drop' hC hk hc
  refine ⟨_, _, by simp only [List.length_drop]; rfl, ?_, by simp only [List.length_drop]; omega, hB⟩
  simp only [List.length_drop]
  exact this
set_option maxHeartbeats 2000000 in
set_option maxRecDepth 100000 in
theorem refuint (w0 : World) (A0 : Option Addr) (c0 : Nat) (xs : List Int) (w : World) (hr : (Kd.int .u8).C w0 A0 xs.length xs) (hc : xs.length ≤ c0) (hby : Byt xs) (hb : Below w0.heap.size w0 w) :
    Calls Try.prog 47 #[.slice A0 xs.length c0] w (RPost w0 xs w) := by
  have HC := Aside0.mk hr
  have HBY := Aside0.mk hby
  have HB0 := Aside0.mk hb
  have hm : xs.length ≤ 9223372036854775807 := hr.2.1
  clear hr hby hb
  go_enter Try.func47, Try.ntmps47
  go_wp2_with fail
  go_loop [3] (fun v3 => ∃ k : Nat, v3 = .int .i64 (k : Int) ∧ Aside0 (RInv xs k)) (fun v3 => 11 - (intOf v3).toNat)
  case atStart => exact ⟨0, rfl, ⟨rinv_zero xs⟩⟩
  case round =>
    obtain ⟨k, rfl, HI⟩ := hrel
    have hk := HI.out.1
    have hkl := HI.out.2.1
    have HBW := Aside0.mk (below_step HB0.out (below_alloc (Below.refl _ _) (.cells #[.int .u64 0, .slice none 0 0, .int .i64 0] 82)))
    by_cases h1 : k = 10
    · have hfin := Aside0.mk (HI.out.2.2.2 h1)
      have h2 : ((k : Int) == 10) = true := by simp [h1]
      have h3 : decide ((k : Int) < 10) = false := by simp; omega
      have h4 : (decide ((k : Int) < (xs.length : Int)) = true ∧ decide (k < xs.length) = true) ∨ (decide ((k : Int) < (xs.length : Int)) = false ∧ decide (k < xs.length) = false) := by
        by_cases h : k < xs.length
        · exact .inl ⟨by simp; omega, by simp; omega⟩
        · exact .inr ⟨by simp; omega, by simp; omega⟩
      clear h1
      rcases h4 with ⟨h4, h5⟩ | ⟨h4, h5⟩
      all_goals
        go_wp2
        refine bodyPost_ret (v := .agg #[.int .u64 0, .slice A0 xs.length c0, .int .i64 5]) (by simp [results, Try.results47, go_sem]) rfl ?_
        exact RPost.bad hfin.out HC.out hc ((Below.refl _ _).alloc (Nat.le_refl _) _)
    · have h2 : ((k : Int) == 10) = false := by simp; omega
      have h3 : decide ((k : Int) < 10) = true := by simp; omega
      by_cases h6 : k = xs.length
      · have h4 : decide ((k : Int) < (xs.length : Int)) = false := by simp; omega
        have h5 : decide (k < xs.length) = false := by simp; omega
        have h7 : ((k : Int) == (xs.length : Int)) = true := by simp; omega
        have hfin := Aside0.mk (inv_end (HI.out.2.2.1 (by omega)) h6)
        rw [if_neg h1] at hfin
        clear h1 h6
        go_wp2
        refine bodyPost_ret (v := .agg #[.int .u64 0, .slice A0 xs.length c0, .int .i64 4]) (by simp [results, Try.results47, go_sem]) rfl ?_
        exact RPost.bad hfin.out HC.out hc ((Below.refl _ _).alloc (Nat.le_refl _) _)
      · have h4 : decide ((k : Int) < (xs.length : Int)) = true := by simp; omega
        have h5 : decide (k < xs.length) = true := by simp; omega
        have h7 : ((k : Int) == (xs.length : Int)) = false := by simp; omega
        have hlt : k < xs.length := by omega
        have HQ : Aside0 (xs[k]? = some (rd xs k)) := ⟨by unfold rd; rw [List.getElem?_eq_getElem hlt, List.getD_eq_getElem?_getD, List.getElem?_eq_getElem (by simpa using hlt)]; simp⟩
        obtain ⟨q0, q1⟩ := HBY.out _ (List.mem_of_getElem? HQ.out)
        obtain ⟨ad, rfl, hx⟩ := Kd.at_int (Kd.C_below HC.out HBW.out) k (by omega) (by omega)
        have hx2 : (w.alloc (.cells #[.int .u64 0, .slice none 0 0, .int .i64 0] 82)).cell? (ad.add k) = some (.int .u8 (rd xs k)) := hx
        clear hx h6
        generalize rd xs k = q at *
        by_cases h8 : 128 ≤ q
        · have h8b : decide (128 ≤ q) = true := decide_eq_true h8
          have hnext := Aside0.mk (rinv_next HI.out HQ.out (by omega) h8)
          go_wp2
          go_round
          case rel => exact ⟨k + 1, by go_num, hnext⟩
          case measure => simp [intOf]; omega
        · have h8b : decide (128 ≤ q) = false := decide_eq_false h8
          by_cases h9 : k = 9 ∧ 1 < q
          · have h9b : ((k : Int) == 9) = true := by simp; omega
            have h9c : decide (1 < q) = true := decide_eq_true h9.2
            have hfin := Aside0.mk (inv_nine (HI.out.2.2.1 (by omega)) HQ.out h9.1 (by omega))
            have hx9 : (w.alloc (.cells #[.int .u64 0, .slice none 0 0, .int .i64 0] 82)).cell? ⟨ad.block, ad.off + 9, none⟩ = some (.int .u8 q) := by
              have h := hx2
              rw [h9.1] at h
              simpa [Addr.add] using h
            have hx9l : (9 : Int) < (xs.length : Int) := by omega
            have hx9m : 9 < xs.length := by omega
            clear h9
            go_wp2
            refine bodyPost_ret (v := .agg #[.int .u64 0, .slice (some ad) xs.length c0, .int .i64 5]) (by simp [results, Try.results47, go_sem]) rfl ?_
            exact RPost.bad hfin.out HC.out hc ((Below.refl _ _).alloc (Nat.le_refl _) _)
          · have HK9 : Aside0 (k = 9 → q ≤ 1) := ⟨fun h => by omega⟩
            have h10 : (((k : Int) == 9) = true ∧ decide (1 < q) = false ∧ (w.alloc (.cells #[.int .u64 0, .slice none 0 0, .int .i64 0] 82)).cell? ⟨ad.block, ad.off + 9, none⟩ = some (.int .u8 q) ∧ (9 : Int) < (xs.length : Int) ∧ 9 < xs.length) ∨ ((k : Int) == 9) = false := by
              by_cases h : k = 9
              · refine .inl ⟨by simp [h], by simp; omega, ?_, by omega, by omega⟩
                have h' := hx2
                rw [h] at h'
                simpa [Addr.add] using h'
              · exact .inr (by simp; omega)
            clear h9
            by_cases h11 : 0 < k ∧ q = 0
            · have h12 : decide ((0 : Int) < (k : Int)) = true := by simp; omega
              have h12b : decide (0 < k) = true := by simp; omega
              have h13 : (q == 0) = true := by simp [h11.2]
              have hfin := Aside0.mk (inv_null (HI.out.2.2.1 (by omega)) HQ.out (by omega) h11.2 h11.1)
              clear h11
              rcases h10 with ⟨ha, hb, hc9, hd9, he9⟩ | ha
              all_goals
                go_wp2
                refine bodyPost_ret (v := .agg #[.int .u64 0, .slice (some ad) xs.length c0, .int .i64 5]) (by simp [results, Try.results47, go_sem]) rfl ?_
                exact RPost.bad hfin.out HC.out hc ((Below.refl _ _).alloc (Nat.le_refl _) _)
            · have hfin := Aside0.mk (rinv_good HI.out HQ.out (by omega) q0 (by omega) (fun h => by have := HK9.out h.1; omega) h11)
              have h12 : (decide ((0 : Int) < (k : Int)) = true ∧ decide (0 < k) = true ∧ (q == 0) = false) ∨ (decide ((0 : Int) < (k : Int)) = false ∧ decide (0 < k) = false) := by
                by_cases h : 0 < k
                · exact .inl ⟨by simp; omega, by simp; omega, by simp; omega⟩
                · exact .inr ⟨by simp; omega, by simp; omega⟩
              clear h11
              rcases h10 with ⟨ha, hb, hc9, hd9, he9⟩ | ha <;> rcases h12 with ⟨hd, he, hf⟩ | ⟨hd, he⟩
              all_goals
                go_wp2
                go_loop [4, 5] (fun v4 v5 => ∃ i : Int, -1 ≤ i ∧ i ≤ k ∧ v5 = .int .i64 i ∧ v4 = .int .u64 (val ((xs.take (k + 1)).drop (i + 1).toNat))) (fun _ v5 => (intOf v5 + 1).toNat)
                case atStart => exact ⟨k, by omega, by omega, rfl, by rw [List.drop_of_length_le (by rw [List.length_take]; omega)]; rfl⟩
                case round =>
                  obtain ⟨i, hi0, hi1, rfl, rfl⟩ := hrel
                  by_cases hi : i = -1
                  · subst hi
                    have hz : val ((xs.take (k + 1)).drop ((-1 : Int) + 1).toNat) = val (xs.take (k + 1)) := by rw [show ((-1 : Int) + 1).toNat = 0 by decide, List.drop_zero]
                    rw [hz]
                    clear hz
                    have HV := hfin
                    generalize val (xs.take (k + 1)) = v at *
                    obtain ⟨i0, hi0, hz0⟩ := Option.map_eq_some_iff.1 infoU8
                    simp only [Prod.mk.injEq] at hz0
                    obtain ⟨A', HA'⟩ : ∃ A', Aside0 ((if c0 = k + 1 then some ad else (some ad : Option Addr).map (·.add ((k + 1) * 1))) = A') := ⟨_, ⟨rfl⟩⟩
                    have hcut : ∀ W : World, (Instr.slice 43 (.slice (some ad) xs.length c0) (some (.int .i64 ((k : Int) + 1))) none none).run Try.prog W = .ok (.slice A' (xs.length - (k + 1)) (c0 - (k + 1))) W := by
                      rw [← HA'.out]
                      exact cut_from (P := Try.prog) 43 5 .i64 Try.underlying43 hi0 1 hz0.2.1 (some ad) xs.length c0 ((k : Int) + 1) (by omega) (by omega)
                    clear hi0 hz0
                    go_wp2
                    refine bodyPost_ret (v := .agg #[.int .u64 v, .slice A' (xs.length - (k + 1)) (c0 - (k + 1)), .int .i64 0]) (by simp [results, Try.results47, go_sem]) rfl ?_
                    rw [← HA'.out]
                    exact RPost.good hfin.out HC.out hc (by omega) ((Below.refl _ _).alloc (Nat.le_refl _) _)
                  · obtain ⟨m, rfl⟩ := Int.eq_ofNat_of_zero_le (show 0 ≤ i by omega)
                    have hml : m < xs.length := by omega
                    have HQ2 : Aside0 (xs[m]? = some (rd xs m)) := ⟨by unfold rd; rw [List.getElem?_eq_getElem hml, List.getD_eq_getElem?_getD, List.getElem?_eq_getElem (by simpa using hml)]; simp⟩
                    obtain ⟨s0, s1⟩ := HBY.out _ (List.mem_of_getElem? HQ2.out)
                    obtain ⟨ad2, e2, hx⟩ := Kd.at_int (Kd.C_below HC.out HBW.out) m (by omega) (by omega)
                    have hxm : (w.alloc (.cells #[.int .u64 0, .slice none 0 0, .int .i64 0] 82)).cell? (ad.add m) = some (.int .u8 (rd xs m)) := by
                      cases e2
                      exact hx
                    clear hx e2
                    have HD : Aside0 ((xs.take (k + 1)).drop m = rd xs m :: (xs.take (k + 1)).drop (m + 1)) := ⟨drop_at (by rw [List.getElem?_take, if_pos (by omega)]; exact HQ2.out)⟩
                    rw [show ((m : Int) + 1).toNat = m + 1 by omega]
                    have HVV : Aside0 (val ((xs.take (k + 1)).drop m) = rd xs m % 128 + 128 * val ((xs.take (k + 1)).drop (m + 1))) := ⟨by rw [HD.out, val_cons]⟩
                    have HVT : Aside0 (val ((xs.take (k + 1)).drop m) < 18446744073709551616) := ⟨by
                      have h1 := val_drop (xs.take (k + 1)) m
                      have h2 := (rdU_range HBY.out).2
                      rw [hfin.out] at h2
                      simp only at h2
                      omega⟩
                    have v0 := val_nonneg ((xs.take (k + 1)).drop (m + 1))
                    have HOUT : Aside0 (∀ v : Int, v = val ((xs.take (k + 1)).drop m) → val ((xs.take (k + 1)).drop m) = v) := ⟨fun v h => h.symm⟩
                    obtain ⟨vm, HVM⟩ : ∃ v, Aside0 (val ((xs.take (k + 1)).drop m) = v) := ⟨_, ⟨rfl⟩⟩
                    rw [HVM.out] at HVV HVT
                    generalize val ((xs.take (k + 1)).drop (m + 1)) = v at *
                    generalize rd xs m = s at *
                    have hw1 : IntKind.u64.wrap (v * 128) = v * 128 := wrap_u64 (by omega) (by have := HVV.out; have := HVT.out; omega)
                    have hw2 : IntKind.u64.wrap (v * 128 + s % 128) = vm := by
                      rw [show v * 128 + s % 128 = vm by have := HVV.out; omega]
                      exact wrap_u64 (by have := HVV.out; omega) HVT.out
                    clear hi
                    go_wp2
                    go_round
                    case rel => exact ⟨(m : Int) - 1, by omega, by omega, by go_num, by rw [show ((m : Int) - 1 + 1).toNat = m by omega, HVM.out]⟩
                    case measure => simp [intOf] <;> omega
end Go.Proofs.Ytpcbcekfakjgkaa.Pk
