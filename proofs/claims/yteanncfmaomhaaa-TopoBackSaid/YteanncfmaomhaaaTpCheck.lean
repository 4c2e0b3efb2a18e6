/- topo.Check, in the form of the printer's own contracts. -/
import Derived.Test.YteanncfmaomhaaaTpVertex
namespace Go.Proofs.Yteanncfmaomhaaa.Ex
open Go Go.RowKit Go.Maps Go.Proofs.YteanncfmaomhaaaW.PrintWords Go.Proofs.YteanncfmaomhaaaW.PrintLast Go.Proofs.YteanncfmaomhaaaW.PrintMore Go.Proofs.Yteanncfmaomhaaa.Mono
set_option linter.unusedVariables false
set_option linter.unusedSimpArgs false
theorem checkGo_bad {l vs : List Vx} {i : Nat} {v : Vx} {ks : List (Int × Int)} {e : Int} (h : vertOf l i v ks = e) (hn : e ≠ 0) : checkGo l i (v :: vs) ks = ((i : Int), e) := by
  unfold checkGo
  rw [h, if_neg hn]
theorem checkGo_ok {l vs : List Vx} {i : Nat} {v : Vx} {ks : List (Int × Int)} (h : vertOf l i v ks = 0) : checkGo l i (v :: vs) ks = checkGo l (i + 1) vs ((v.f0, v.f3) :: ks) := by
  rw [checkGo, if_pos h]
theorem drop_vAt {l : List Vx} {k : Nat} (h : k < l.length) : l.drop k = vAt l (k : Int) :: l.drop (k + 1) := by
  rw [List.drop_eq_getElem_cons h]
  unfold vAt rd_T40
  rw [Int.toNat_natCast, List.getD_eq_getElem?_getD, List.getElem?_eq_getElem h]
  rfl
set_option maxHeartbeats 4000000 in
set_option maxRecDepth 100000 in
theorem check_ok (A0 : Option Addr) (c0 : Nat) (l : List Vx) (p : Int) (w : World) (hC : Kd.C k40 w A0 l.length l) (hv : okV l = true) :
    Calls Try.prog 10 #[.agg #[.slice A0 l.length c0, .int .i64 p]] w fun e w' => e = .returned (.tuple #[.int .i64 (checkOf l p).1, .int .i64 (checkOf l p).2]) ∧ Below w.heap.size w w' := by
  have HC := Aside0.mk hC
  have HV := Aside0.mk hv
  clear hC hv
  obtain ⟨⟨q1, q2⟩, HQ⟩ : ∃ q, Aside0 (checkOf l p = q) := ⟨_, ⟨rfl⟩⟩
  rw [HQ.out]
  simp only
  go_enter Try.func10, Try.ntmps10
  go_upto_region 1 with fail
  have HB := Aside0.mk (below_alloc (Below.refl w.heap.size w) (.cells #[.slice A0 l.length c0, .int .i64 p] 24))
  have HBT := Aside0.mk (blk_new w (.cells #[.slice A0 l.length c0, .int .i64 p] 24))
  generalize w.alloc (.cells #[.slice A0 l.length c0, .int .i64 p] 24) = w1 at HB HBT ⊢
  obtain ⟨gt, HGT⟩ : ∃ g, Aside0 (w.heap.size = g) := ⟨_, ⟨rfl⟩⟩
  rw [HGT.out] at HBT ⊢
  have y0_ := (blk_cell HBT.out 0).trans (rfl : _ = some (.slice A0 l.length c0 : Value))
  have y1_ := (blk_cell HBT.out 1).trans (rfl : _ = some (.int .i64 p : Value))
  by_cases hbad : p < 1 ∨ 8 < p ∨ l.length = 0 ∨ 24 < l.length
  · have hq := HQ.out
    unfold checkOf at hq
    rw [if_pos hbad] at hq
    injection hq with hq1 hq2
    subst hq1 hq2
    by_cases h1 : p < 1
    · have h1b : decide (p < 1) = true := by simpa using h1
      clear hbad h1
      go_wp2_with fail
      go_ret2
      exact ⟨rfl, HB.out⟩
    have h1b : decide (p < 1) = false := by simpa using h1
    by_cases h2 : 8 < p
    · have h2b : decide (p > 8) = true := by simpa using h2
      clear hbad h1 h2
      go_wp2_with fail
      go_ret2
      exact ⟨rfl, HB.out⟩
    have h2b : decide (p > 8) = false := by simpa using h2
    by_cases h3 : l.length = 0
    · have h3b : ((l.length : Int) == 0) = true := by simpa using h3
      have h3c : (l.length == 0) = true := by simpa using h3
      clear hbad h1 h2 h3
      go_wp2_with fail
      go_ret2
      exact ⟨rfl, HB.out⟩
    have h3b : ((l.length : Int) == 0) = false := by simpa using h3
    have h3c : (l.length == 0) = false := by simpa using h3
    have h4b : decide ((l.length : Int) > 24) = true := by simp; omega
    have h4c : decide ((24 : Int) < (l.length : Int)) = true := by simp; omega
    have h4d : decide (24 < l.length) = true := by simp; omega
    clear hbad h1 h2 h3
    go_wp2_with fail
    go_ret2
    exact ⟨rfl, HB.out⟩
  · have hq := HQ.out
    unfold checkOf at hq
    rw [if_neg hbad] at hq
    clear HQ
    have HQ := Aside0.mk hq
    clear hq
    have h1b : decide (p < 1) = false := by simp; omega
    have h2b : decide (p > 8) = false := by simp; omega
    have h3b : ((l.length : Int) == 0) = false := beq_eq_false_iff_ne.2 (by omega)
    have h3c : (l.length == 0) = false := beq_eq_false_iff_ne.2 (by omega)
    have h4b : decide ((l.length : Int) > 24) = false := by simp; omega
    have h4c : decide ((24 : Int) < (l.length : Int)) = false := by simp; omega
    have h4d : decide (24 < l.length) = false := by simp; omega
    have HL : Aside0 (l.length ≤ 24) := ⟨by omega⟩
    clear hbad
    go_upto_region 3 with fail
    clear h1b h2b h3b h3c h4b h4c h4d y0_ y1_
    have hmk_ : (Instr.makeMap 52 none).run Try.prog w1 = .ok (.map (some w1.heap.size)) (w1.alloc (.map #[] 0)) := by kernel_rfl
    go_upto_region 4 with fail
    clear hmk_
    have HS := Aside0.mk (SV.new w1)
    have HB2 := Aside0.mk (below_alloc (Below.refl w1.heap.size w1) (.map #[] 0))
    have HC1 := Aside0.mk (Kd.C_below HC.out HB.out)
    generalize w1.alloc (.map #[] 0) = w2 at HS HB2 ⊢
    obtain ⟨bm, HM⟩ : ∃ g, Aside0 (w1.heap.size = g) := ⟨_, ⟨rfl⟩⟩
    rw [HM.out] at HS ⊢
    clear HC HGT
    have y0_ := (blk_cell (blk_below HBT.out HB2.out) 0).trans (rfl : _ = some (.slice A0 l.length c0 : Value))
    go_wp2_with fail
    clear y0_
    go_loopw [31] (fun v31 wr => ∃ (k : Nat) (ks : List (Int × Int)), k ≤ l.length ∧ v31 = .int .i64 (k : Int) ∧ Aside0 (SV wr bm k ks) ∧ Aside0 (Below w1.heap.size w1 wr) ∧ Aside0 (checkGo l k (l.drop k) ks = (q1, q2))) (fun v31 _ => l.length - (intOf v31).toNat)
    case atStart => exact ⟨0, [], by omega, rfl, HS, HB2, ⟨HQ.out⟩⟩
    case round =>
      clear HS HB2 HQ
      obtain ⟨k, ks, hk, rfl, HS, HB2, HQ⟩ := hrel
      by_cases hlt : k < l.length
      · have hl24 := HL.out
        have h1 : decide ((k : Int) < (l.length : Int)) = true := by simp; omega
        have h1b : decide (k < l.length) = true := by simp; omega
        have HD := Aside0.mk (drop_vAt hlt)
        have HVX := Aside0.mk (vertex_ok w1 wr l A0 c0 p k bm k ks HC1.out hlt HB2.out HS.out (by have := HM.out; omega) (by have := HL.out; omega) HV.out)
        obtain ⟨v, HVV⟩ : ∃ v, Aside0 (vAt l (k : Int) = v) := ⟨_, ⟨rfl⟩⟩
        rw [HVV.out] at HD HVX
        obtain ⟨e, HE⟩ : ∃ e, Aside0 (vertOf l k v ks = e) := ⟨_, ⟨rfl⟩⟩
        rw [HE.out] at HVX
        rw [HD.out] at HQ
        have y0_ := (blk_cell (blk_below HBT.out HB2.out) 0).trans (rfl : _ = some (.slice A0 l.length c0 : Value))
        have y1_ := (blk_cell (blk_below HBT.out HB2.out) 1).trans (rfl : _ = some (.int .i64 p : Value))
        go_wp2_with fail
        refine HVX.out.mono ?_
        rintro e_ w3 ⟨rfl, hb_, hs_⟩
        clear y0_ y1_ HVX
        replace HB2 := Aside0.mk hb_
        have HS3 := Aside0.mk hs_
        clear hb_ hs_ HS
        by_cases he : e = 0
        · have HS4 := Aside0.mk (HS3.out he)
          have HQ4 := Aside0.mk ((checkGo_ok (l := l) (vs := l.drop (k + 1)) (HE.out.trans he)).symm.trans HQ.out)
          have heb : (e != 0) = false := by simpa using he
          clear HS3 HQ he
          go_wp2_with fail
          go_roundw
          case rel => exact ⟨k + 1, _, by omega, by go_num, HS4, HB2, HQ4⟩
          case measure => simp [intOf]; omega
        · have heb : (e != 0) = true := by simpa using he
          have hq := (checkGo_bad (l := l) (vs := l.drop (k + 1)) HE.out he).symm.trans HQ.out
          injection hq with hq1 hq2
          subst hq1 hq2
          have HB3 := Aside0.mk (below_step HB.out HB2.out)
          clear he HS3 HQ
          go_wp2_with fail
          go_ret2
          exact ⟨rfl, HB3.out⟩
      · obtain rfl : k = l.length := by omega
        have hq := HQ.out
        rw [List.drop_length] at hq
        unfold checkGo at hq
        injection hq with hq1 hq2
        subst hq1 hq2
        have HB3 := Aside0.mk (below_step HB.out HB2.out)
        clear HQ hk hlt
        go_wp2_with fail
        go_ret2
        exact ⟨rfl, HB3.out⟩
def topo_Check.f (l0 : List Vx) (a1 : Int) : Option (Int × Int) := if okV l0 = true then some (checkOf l0 a1) else none
theorem topo_Check.calls (A0 : Option Addr) (c0 : Nat) (l0 : List Vx) (a1 : Int) (r1 r2 : Int) (w : World) (hr0 : Kd.C k40 w A0 l0.length l0) (hc0 : l0.length ≤ c0) (h : topo_Check.f l0 a1 = some (r1, r2)) :
    Calls Try.prog 10 #[.agg #[.slice A0 l0.length c0, .int .i64 a1]] w fun e w' => e = .returned (.tuple #[.int .i64 r1, .int .i64 r2]) ∧ Below w.heap.size w w' := by
  unfold topo_Check.f at h
  split at h
  · rename_i hv
    have h1 := Option.some.inj h
    have := check_ok A0 c0 l0 a1 w hr0 hv
    rw [h1] at this
    exact this
  · cases h
end Go.Proofs.Yteanncfmaomhaaa.Ex
