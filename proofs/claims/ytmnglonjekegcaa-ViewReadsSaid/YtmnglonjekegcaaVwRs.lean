/- (c11) tidemillref11.Stable. -/
import Derived.Test.YtmnglonjekegcaaVwNm
import Derived.Test.YtmnglonjekegcaaVwOfW
namespace Go.Proofs.Ytmnglonjekegcaa.Vw
open Go Go.RowKit Go.Maps Go.Proofs.Ytmnglonjekegcaa.Mk Go.Proofs.Ytmnglonjekegcaa.Rp Go.Proofs.YtmnglonjekegcaaW.PrintWords Go.Proofs.YtmnglonjekegcaaW.PrintLast Go.Proofs.YtmnglonjekegcaaW.PrintMore Go.Proofs.Ytmnglonjekegcaa.Rw Go.Proofs.Ytmnglonjekegcaa.Ow Go.Proofs.Ytmnglonjekegcaa.Mono
set_option linter.unusedVariables false
set_option linter.unusedSimpArgs false
set_option maxRecDepth 100000
def gS (l : List S47) (m : Int) (k : Int) : Int := match (ofO l k).s.o with | [] => m | p :: _ => if p.1 < m then p.1 else m
theorem mn_comm (z a b : Int) : (if b < (if a < z then a else z) then b else (if a < z then a else z)) = (if a < (if b < z then b else z) then a else (if b < z then b else z)) := by
  by_cases h1 : a < z
  · by_cases h2 : b < z
    · simp only [if_pos h1, if_pos h2]
      by_cases h3 : b < a
      · rw [if_pos h3, if_neg (by omega)]
      · rw [if_neg h3]
        by_cases h4 : a < b
        · rw [if_pos h4]
        · rw [if_neg h4]; omega
    · simp only [if_pos h1, if_neg h2]
      rw [if_neg (by omega)]
  · by_cases h2 : b < z
    · simp only [if_neg h1, if_pos h2]
      rw [if_neg (by omega)]
    · simp only [if_neg h1, if_neg h2]
theorem gS_comm (l : List S47) (z a b : Int) : gS l (gS l z a) b = gS l (gS l z b) a := by
  unfold gS
  cases (ofO l a).s.o with
  | nil => cases (ofO l b).s.o <;> rfl
  | cons p _ =>
    cases (ofO l b).s.o with
    | nil => rfl
    | cons q _ =>
      exact mn_comm z p.1 q.1
/-- The document's Stable is the program's. -/
theorem stable_names (l : List S47) : (namesV l).foldl (gS l) (l.length : Int) = stableV l := by
  have h1 : stableV l = ((throughV l).T.map (·.t.f0)).foldl (gS l) (l.length : Int) := by
    unfold stableV
    rw [List.foldl_map]
    have hh : ∀ (T : List TS), (∀ s ∈ T, s ∈ (throughV l).T) → ∀ z : Int, T.foldl (fun m s => match s.o with | [] => m | p :: _ => if p.1 < m then p.1 else m) z = T.foldl (fun m s => gS l m s.t.f0) z := by
      intro T
      induction T with
      | nil => intro _ z; rfl
      | cons s T ih =>
        intro hs z
        rw [List.foldl_cons, List.foldl_cons, ih fun a ha => hs a (by simp [ha])]
        congr 1
        unfold gS
        rw [ofO_s, getT_in (KInv.through l).ndT (hs s (by simp))]
    exact hh _ (fun _ h => h) _
  rw [h1, namesV_keys]
  unfold sortI
  exact (List.mergeSort_perm _ _).foldl_eq' (fun x _ y _ z => gS_comm l z x y) _
theorem opens_len (s : TS) : (opens s).length = s.o.length := by unfold opens; rw [List.length_map]
set_option maxHeartbeats 4000000 in
theorem rstable_ok (A : Option Addr) (n c : Nat) (l : List S47) (w : World) (hC : Kd.C k47 w A n l) (hn : n ≤ 300) (hnc : n ≤ c) : Calls Try.prog 15 #[.slice A n c] w fun e w' => e = .returned (.int .i64 (stableV l)) ∧ Below w.heap.size w w' := by
  have HC := Aside0.mk hC
  have HLn := Aside0.mk hC.1
  clear hC
  go_enter Try.func15, Try.ntmps15
  go_wp2_with fail
  refine (names_ok A n c l w HC.out hn hnc).mono ?_
  rintro e_ w1 ⟨v, rfl, hR_, hb_⟩
  obtain ⟨Av, cv, rfl⟩ := Kd.R_slice hR_
  have HN := Aside0.mk (Kd.R_reads' hR_).2.2
  have HB1 := Aside0.mk hb_
  have HST : Aside0 ((namesV l).foldl (gS l) (n : Int) = stableV l) := ⟨by rw [← stable_names, HLn.out]⟩
  obtain ⟨nm, HNM⟩ : ∃ nm, Aside0 (namesV l = nm) := ⟨_, ⟨rfl⟩⟩
  have HNL : Aside0 (nm.length ≤ 300) := ⟨by rw [← HNM.out]; have := namesV_len l; have := HLn.out; omega⟩
  rw [HNM.out] at HN HST ⊢
  obtain ⟨q, HQ⟩ : ∃ q, Aside0 (nm.length = q) := ⟨_, ⟨rfl⟩⟩
  rw [HQ.out] at HN HNL ⊢
  have hq3 := HNL.out
  clear hR_ hb_
  go_wp2_with fail
  go_loopw [3, 5] (fun va vb wr => ∃ (i : Nat) (m : Int), i ≤ q ∧ va = .int .i64 m ∧ vb = .int .i64 (i : Int) ∧ Aside0 ((nm.take i).foldl (gS l) (n : Int) = m) ∧ Aside0 (Below w1.heap.size w1 wr)) (fun _ vb _ => q - (intOf vb).toNat)
  case atStart => exact ⟨0, (n : Int), Nat.zero_le _, rfl, rfl, ⟨rfl⟩, ⟨Below.refl _ _⟩⟩
  case round =>
    obtain ⟨i, m, hi, rfl, rfl, HM, HB⟩ := hrel
    by_cases hlt : i < q
    · have h1 : decide ((i : Int) < (q : Int)) = true := by simp; omega
      have h1b : decide (i < q) = true := by simp; omega
      have hqi : (i : Int) < (q : Int) := by omega
      obtain ⟨y, HY⟩ : ∃ y, Aside0 (rd nm (i : Int) = y) := ⟨_, ⟨rfl⟩⟩
      obtain ⟨ad, rfl, y_⟩ := Kd.at_int HN.out (i : Int) (Int.natCast_nonneg _) hqi
      rw [HY.out, Int.toNat_natCast] at y_
      replace y_ := pw_cell_below HB.out y_
      have HTN : Aside0 ((nm.take (i + 1)).foldl (gS l) (n : Int) = gS l m y) := ⟨by
        rw [List.take_succ_eq_append_getElem (by rw [HQ.out]; exact hlt), List.foldl_append, HM.out, ← HY.out]
        unfold rd
        rw [Int.toNat_natCast, List.getD_eq_getElem?_getD, List.getElem?_eq_getElem (by rw [HQ.out]; exact hlt)]
        rfl⟩
      go_wp2_with fail
      refine (of_ok A n c l y w wr (below_step HB1.out HB.out) HC.out hn hnc).mono ?_
      rintro e_ w2 ⟨V, A3, c3, rfl, hb_, hW_, hl3_, hc3_⟩
      obtain ⟨o, HO⟩ : ∃ o, Aside0 (ofO l y = o) := ⟨_, ⟨rfl⟩⟩
      rw [HO.out] at hW_ hl3_ hc3_ ⊢
      obtain ⟨B0, d0, hv0, _, _⟩ := intC (hW_.own 0) rfl
      change V 0 = .slice B0 o.s.t.f4.length d0 at hv0
      obtain ⟨B1, d1, hv1, _, hC1⟩ := intC (hW_.own 1) rfl
      change V 1 = .slice B1 (opens o.s).length d1 at hv1
      change Kd.C _ w2 B1 (opens o.s).length (opens o.s) at hC1
      obtain ⟨B2, d2, hv2, _, _⟩ := intC (hW_.own 2) rfl
      change V 2 = .slice B2 o.d.length d2 at hv2
      obtain ⟨B3, d3, hv3, _, _⟩ := intC (hW_.own 3) rfl
      change V 3 = .slice B3 o.a.length d3 at hv3
      rw [hv0, hv1, hv2, hv3]
      have HC1 := Aside0.mk hC1
      replace HB := Aside0.mk (below_step HB.out hb_)
      clear hb_ hW_ hl3_ hc3_ hv0 hv1 hv2 hv3 hC1 y_
      go_upto_region 7 with fail
      have HX := Aside0.mk (heap_alloc_new w2 (.cells #[.int .i64 y, .int .i64 o.s.t.f1, .int .i64 o.s.t.f2, .slice A3 o.s.t.f3.length c3, .slice B0 o.s.t.f4.length d0, .int .i64 ((opens o.s).length : Int), .slice B1 (opens o.s).length d1, .slice B2 o.d.length d2, .slice B3 o.a.length d3] 70))
      have hb_ := below_alloc (Below.refl w2.heap.size w2) (.cells #[.int .i64 y, .int .i64 o.s.t.f1, .int .i64 o.s.t.f2, .slice A3 o.s.t.f3.length c3, .slice B0 o.s.t.f4.length d0, .int .i64 ((opens o.s).length : Int), .slice B1 (opens o.s).length d1, .slice B2 o.d.length d2, .slice B3 o.a.length d3] 70)
      generalize w2.alloc (.cells #[.int .i64 y, .int .i64 o.s.t.f1, .int .i64 o.s.t.f2, .slice A3 o.s.t.f3.length c3, .slice B0 o.s.t.f4.length d0, .int .i64 ((opens o.s).length : Int), .slice B1 (opens o.s).length d1, .slice B2 o.d.length d2, .slice B3 o.a.length d3] 70) = w3 at HX hb_ ⊢
      obtain ⟨gx, HGX⟩ : ∃ g, Aside0 (w2.heap.size = g) := ⟨_, ⟨rfl⟩⟩
      rw [HGX.out] at HX ⊢
      replace HC1 := Aside0.mk (Kd.C_below HC1.out hb_)
      replace HB := Aside0.mk (below_step HB.out hb_)
      clear hb_
      have x6_ := (blk_cell HX.out 6).trans (rfl : _ = some (.slice B1 (opens o.s).length d1 : Value))
      have hol := opens_len o.s
      cases ho : o.s.o with
      | nil =>
        have hz : (opens o.s).length = 0 := by rw [hol, ho]; rfl
        rw [hz] at x6_
        have g0_ : decide (((0 : Nat) : Int) > 0) = false := by decide
        have g1_ : decide ((0 : Int) < ((0 : Nat) : Int)) = false := by decide
        have HG : Aside0 (gS l m y = m) := ⟨by unfold gS; rw [HO.out, ho]⟩
        clear hz ho hol
        go_wp2_with fail
        go_roundw
        case rel => exact ⟨i + 1, m, by omega, rfl, by go_num, ⟨by rw [HTN.out, HG.out]⟩, HB⟩
        case measure => simp [intOf]; omega
      | cons p r =>
        have hops : opens o.s = p.1 :: r.map Prod.fst := by unfold opens; rw [ho]; rfl
        obtain ⟨z, HZ⟩ : ∃ z, Aside0 (r.length + 1 = z) := ⟨_, ⟨rfl⟩⟩
        have hlz : (opens o.s).length = z := by rw [hol, ho, ← HZ.out]; rfl
        have hz0 : 0 < z := by have := HZ.out; omega
        have hz0i : (0 : Int) < (z : Int) := by omega
        rw [hlz] at x6_ HC1
        obtain ⟨ad1, rfl, p_⟩ := Kd.at_int HC1.out 0 (Int.le_refl _) hz0i
        rw [hops] at p_
        change w3.cell? (ad1.add 0) = some (.int .i64 p.1) at p_
        have p2_ : w3.cell? ad1 = some (.int .i64 p.1) := by have e0 : ad1.add 0 = ad1 := by cases ad1; rfl
                                                             rw [e0] at p_; exact p_
        obtain ⟨p1, HP1⟩ : ∃ p1, Aside0 (p.1 = p1) := ⟨_, ⟨rfl⟩⟩
        rw [HP1.out] at p_ p2_
        have g0_ : decide ((z : Int) > 0) = true := by simpa using hz0i
        have g1_ : decide ((0 : Int) < (z : Int)) = true := by simpa using hz0i
        have g2_ : decide (0 < z) = true := by simpa using hz0
        have HG : Aside0 (gS l m y = if p1 < m then p1 else m) := ⟨by unfold gS; rw [HO.out, ho, ← HP1.out]⟩
        clear ho hol hops hlz
        by_cases hpm : p1 < m
        · have g3_ : decide (p1 < m) = true := by simpa using hpm
          rw [if_pos hpm] at HG
          clear hpm
          go_wp2_with fail
          go_roundw
          case rel => exact ⟨i + 1, p1, by omega, rfl, by go_num, ⟨by rw [HTN.out, HG.out]⟩, HB⟩
          case measure => simp [intOf]; omega
        · have g3_ : decide (p1 < m) = false := by simpa using hpm
          rw [if_neg hpm] at HG
          clear hpm
          go_wp2_with fail
          go_roundw
          case rel => exact ⟨i + 1, m, by omega, rfl, by go_num, ⟨by rw [HTN.out, HG.out]⟩, HB⟩
          case measure => simp [intOf]; omega
    · obtain rfl : q = i := by omega
      have h1b : decide (q < q) = false := by simp
      have HE : Aside0 (m = stableV l) := ⟨by rw [← HST.out, ← HM.out, List.take_of_length_le (by rw [HQ.out]; exact Nat.le_refl _)]⟩
      go_wp2_with fail
      go_ret
      exact ⟨congrArg (fun z : Int => Ending.returned (.int .i64 z)) HE.out, below_step HB1.out HB.out⟩
end Go.Proofs.Ytmnglonjekegcaa.Vw
