/- A store's find. -/
import Derived.Test.YtlnpnlacalppjaaKvIns
namespace Go.Proofs.Ytlnpnlacalppjaa.Kv
open Go Go.RowKit Go.Proofs.YtlnpnlacalppjaaW.PrintWords Go.Proofs.YtlnpnlacalppjaaW.PrintLast Go.Proofs.YtlnpnlacalppjaaW.PrintMore Go.Proofs.Ytlnpnlacalppjaa.Rw
set_option linter.unusedVariables false
set_option linter.unusedSimpArgs false
def cmpOf (p : Int × Int) (k : Int) : Int := if p.1 < k then -1 else if k < p.1 then 1 else 0
theorem cmp_ok (p : Int × Int) (k : Int) (w : World) :
    Calls Try.prog 28 #[.agg #[.int .i64 p.1, .int .i64 p.2], .int .i64 k] w fun e w' => e = .returned (.int .i64 (cmpOf p k)) ∧ Below w.heap.size w w' := by
  have HB := Aside0.mk (Below.refl w.heap.size w)
  unfold cmpOf
  rcases Int.lt_trichotomy p.1 k with h | h | h
  · rw [if_pos h]
    go_enter Try.func28, Try.ntmps28
    go_wp2
    go_ret
    exact ⟨rfl, below_alloc HB.out _⟩
  · have h1 : decide (p.1 < k) = false := by simp; omega
    have h2 : decide (k < p.1) = false := by simp; omega
    rw [if_neg (by omega), if_neg (by omega)]
    clear h
    go_enter Try.func28, Try.ntmps28
    go_wp2
    go_ret
    exact ⟨rfl, below_alloc HB.out _⟩
  · have h1 : decide (p.1 < k) = false := by simp; omega
    rw [if_neg (by omega), if_pos h]
    go_enter Try.func28, Try.ntmps28
    go_wp2
    go_ret
    exact ⟨rfl, below_alloc HB.out _⟩
theorem own_cells {w : World} {base n : Nat} {v : Value} {L : KL} {A : Option Addr} {c : Nat} (hown : w.ownsRow base 65 2 v n (cellsP L)) (hv : v = .slice A n c) {t : Nat} {p : Int × Int} (hp : L[t]? = some p) :
    ∃ g, A = some ⟨g, 0, none⟩ ∧ ∀ w', Below w.heap.size w w' → w'.cell? ⟨g, t * 2, none⟩ = some (.int .i64 p.1) ∧ w'.cell? ⟨g, t * 2 + 1, none⟩ = some (.int .i64 p.2) := by
  have h1 := cellsP_at hp
  have h2 := (List.getElem?_eq_some_iff.1 h1.1).1
  have h3 := hown.1
  obtain ⟨g, cap, cur, rest, rfl, hbg, hg, hnc, hcm, hxl, hrl, hcur⟩ := own_open hown (by omega)
  injection hv with e1 e2 e3
  refine ⟨g, e1.symm, fun w' hb => ?_⟩
  have hg' := (hb.block g (Array.getElem?_eq_some_iff.1 hg).1).trans hg
  have h4 := (List.getElem?_eq_some_iff.1 h1.2).1
  rw [cell_row hg' hcur, cell_row hg' hcur, List.getElem?_append_left (by omega), List.getElem?_append_left (by omega)]
  exact h1
set_option maxHeartbeats 2000000 in
theorem bs_ok (base n c : Nat) (A : Option Addr) (L : KL) (k : Int) (w : World) (hn : L.length = n) (hown : w.ownsRow base 65 2 (.slice A n c) n (cellsP L)) (hrise : Rise L) (hlen : n ≤ 5000) :
    Calls Try.prog 27 #[.slice A n c, .int .i64 k, .func (.func 28) #[] #[]] w fun e w' => e = .returned (.tuple #[.int .i64 (idx L k : Nat), .bool (get L k).isSome]) ∧ Below w.heap.size w w' := by
  have HB := Aside0.mk (Below.refl w.heap.size w)
  have HO := Aside0.mk hown
  have HR := Aside0.mk hrise
  have HN := Aside0.mk hn
  have HGA := Aside0.mk (get_at hrise (k := k))
  obtain ⟨i0, HE0⟩ : ∃ i0, Aside0 (idx L k = i0) := ⟨_, ⟨rfl⟩⟩
  obtain ⟨q, HQ⟩ : ∃ q, Aside0 ((get L k).isSome = q) := ⟨_, ⟨rfl⟩⟩
  rw [HE0.out, HQ.out]
  rw [HE0.out] at HGA
  clear hown hrise hn
  go_enter Try.func27, Try.ntmps27
  go_wp2_with fail
  go_loopw [9, 10] (fun s9 s10 wr => ∃ lo hi : Nat, s9 = .int .i64 (lo : Int) ∧ s10 = .int .i64 (hi : Int) ∧ lo ≤ hi ∧ hi ≤ n ∧ Aside0 (Below w.heap.size w wr) ∧
    Aside0 ((∀ t, t < lo → ∀ p, L[t]? = some p → p.1 < k) ∧ (∀ t, hi ≤ t → ∀ p, L[t]? = some p → k ≤ p.1))) (fun s9 s10 _ => (intOf s10).toNat - (intOf s9).toNat)
  case atStart => exact ⟨0, n, rfl, rfl, Nat.zero_le _, Nat.le_refl _, HB, ⟨fun t ht => absurd ht (Nat.not_lt_zero _), fun t h1 p hp => by have := (List.getElem?_eq_some_iff.1 hp).1; have := HN.out; omega⟩⟩
  case round =>
    clear HB
    obtain ⟨lo, hi, rfl, rfl, hlh, hin, HB, HI⟩ := hrel
    by_cases hlt : lo < hi
    · obtain ⟨p, hp⟩ : ∃ p, L[(lo + hi) / 2]? = some p := ⟨_, List.getElem?_eq_getElem (by rw [HN.out]; omega)⟩
      obtain ⟨g, rfl, hc⟩ := own_cells HO.out rfl hp
      obtain ⟨x1, x2⟩ := hc wr HB.out
      have HP := Aside0.mk hp
      clear hp hc
      obtain ⟨py, pv⟩ := p
      simp only at x1 x2
      go_wp2_with fail
      refine (cmp_ok (py, pv) k _).mono ?_
      rintro e w2 ⟨rfl, hb_⟩
      replace HB := Aside0.mk (below_step HB.out hb_)
      clear hb_ x1 x2
      unfold cmpOf
      simp only
      by_cases hyk : py < k
      · rw [if_pos hyk]
        have HY := Aside0.mk hyk
        clear hyk
        go_wp2_with fail
        go_roundw
        case rel =>
          exact ⟨(lo + hi) / 2 + 1, hi, by go_num, rfl, by omega, hin, HB, ⟨fun t ht p hp => by have := HR.out.at_ (show t ≤ (lo + hi) / 2 by omega) hp HP.out; have := HY.out; simp only at *; omega, HI.out.2⟩⟩
        case measure => simp [intOf]; omega
      · obtain ⟨m, HM⟩ : ∃ m : Int, Aside0 ((if py < k then (-1 : Int) else if k < py then 1 else 0) = m) := ⟨_, ⟨rfl⟩⟩
        have hm : ¬ (m < 0) := by rw [← HM.out, if_neg hyk]; split <;> omega
        have hmb : decide (m < 0) = false := by simpa using hm
        rw [HM.out]
        have HY := Aside0.mk hyk
        clear hyk hm
        go_wp2_with fail
        go_roundw
        case rel =>
          exact ⟨lo, (lo + hi) / 2, rfl, by go_num, by omega, by omega, HB, ⟨HI.out.1, fun t ht p hp => by have := HR.out.at_ ht HP.out hp; have := HY.out; simp only at *; omega⟩⟩
        case measure => simp [intOf]; omega
    · obtain rfl : hi = lo := by omega
      obtain rfl : i0 = hi := by rw [← HE0.out]; exact idx_of hi (by rw [HN.out]; exact hin) HI.out.1 HI.out.2
      have HG := HGA
      by_cases hn : i0 < n
      · obtain ⟨p, hp⟩ : ∃ p, L[i0]? = some p := ⟨_, List.getElem?_eq_getElem (by rw [HN.out]; omega)⟩
        obtain ⟨g, rfl, hc⟩ := own_cells HO.out rfl hp
        obtain ⟨x1, x2⟩ := hc wr HB.out
        obtain ⟨py, pv⟩ := p
        have HQ2 : Aside0 (q = decide (cmpOf (py, pv) k = 0)) := ⟨by
          have h1 := HI.out.2 i0 (Nat.le_refl _) _ hp
          simp only at h1
          rw [← HQ.out, HG.out, hp]
          unfold cmpOf
          simp only
          by_cases e : py = k
          · rw [if_pos e, if_neg (by omega), if_neg (by omega)]; rfl
          · rw [if_neg e, if_neg (by omega), if_pos (by omega)]; rfl⟩
        simp only at x1 x2
        clear hp hc
        go_wp2_with fail
        refine (cmp_ok (py, pv) k _).mono ?_
        rintro e w2 ⟨rfl, hb_⟩
        replace HB := Aside0.mk (below_step HB.out hb_)
        clear hb_ x1 x2
        obtain ⟨m, HM⟩ : ∃ m, Aside0 (cmpOf (py, pv) k = m) := ⟨_, ⟨rfl⟩⟩
        rw [HM.out] at HQ2 ⊢
        by_cases e0 : m = 0
        · obtain rfl : q = true := by rw [HQ2.out]; simpa using e0
          subst e0
          go_wp2_with fail
          go_ret2
          exact ⟨rfl, HB.out⟩
        · obtain rfl : q = false := by rw [HQ2.out]; simpa using e0
          have hz : (m == 0) = false := by simpa using e0
          clear e0
          go_wp2_with fail
          go_ret2
          exact ⟨rfl, HB.out⟩
      · obtain rfl : q = false := by
          rw [← HQ.out, HG.out, List.getElem?_eq_none (by rw [HN.out]; omega)]
          rfl
        go_wp2_with fail
        go_ret2
        exact ⟨rfl, HB.out⟩
theorem slice_of {w : World} {base e sz n : Nat} {v : Value} {xs : List Value} (h : w.ownsRow base e sz v n xs) : ∃ A c, v = .slice A n c ∧ n ≤ c ∧ c ≤ maxLen := by
  rcases h.2 with ⟨rfl, rfl⟩ | ⟨g, cap, cur, rfl, _, _, h1, h2, _⟩
  · exact ⟨none, 0, rfl, Nat.le_refl _, Nat.zero_le _⟩
  · exact ⟨_, _, rfl, h1, h2⟩
theorem cells_of {w : World} {base b : Nat} {room : Int} {v : Value} {L : KL} (h : KvS w base b room v L) : w.cell? ⟨b, 0, none⟩ = some (.int .i64 room) ∧ w.cell? ⟨b, 1, none⟩ = some v := by
  constructor <;> simp [World.cell?, h.cell]
theorem find_ok (base b : Nat) (room : Int) (v : Value) (L : KL) (k : Int) (w : World) (h : KvS w base b room v L) :
    Calls Try.prog 23 #[.pointer (some ⟨b, 0, none⟩), .int .i64 k] w fun e w' => e = .returned (.tuple #[.int .i64 (idx L k : Nat), .bool (get L k).isSome]) ∧ Below w.heap.size w w' := by
  obtain ⟨A, c, rfl, hnc, hcm⟩ := slice_of h.row
  obtain ⟨_, x1⟩ := cells_of h
  have HL := h.len
  have HS := Aside0.mk (bs_ok base L.length c A L k w rfl h.row h.rise (by omega))
  obtain ⟨n, HN⟩ : ∃ n, Aside0 (L.length = n) := ⟨_, ⟨rfl⟩⟩
  rw [HN.out] at HS hnc HL x1
  clear h
  obtain ⟨i, HI⟩ : ∃ i, Aside0 (idx L k = i) := ⟨_, ⟨rfl⟩⟩
  obtain ⟨q, HQ⟩ : ∃ q, Aside0 ((get L k).isSome = q) := ⟨_, ⟨rfl⟩⟩
  rw [HI.out, HQ.out] at HS ⊢
  go_enter Try.func23, Try.ntmps23
  go_wp2_with fail
  refine HS.out.mono ?_
  rintro e w2 ⟨rfl, hb_⟩
  have HB := Aside0.mk hb_
  clear hb_
  go_wp2_with fail
  go_ret2
  exact ⟨rfl, HB.out⟩
theorem find_none (k : Int) (w : World) : Calls Try.prog 23 #[.pointer none, .int .i64 k] w fun e w' => e = .returned (.tuple #[.int .i64 0, .bool false]) ∧ w = w' := by
  go_enter Try.func23, Try.ntmps23
  go_wp2
  go_ret2
  exact ⟨rfl, rfl⟩
end Go.Proofs.Ytlnpnlacalppjaa.Kv
