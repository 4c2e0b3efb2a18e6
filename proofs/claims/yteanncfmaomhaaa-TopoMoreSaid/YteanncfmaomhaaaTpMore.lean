/- The statement TopoMore. -/
import Derived.Test.YteanncfmaomhaaaTpApp
import Derived.Test.YteanncfmaomhaaaTpLwC
import Derived.Test.YteanncfmaomhaaaOpT
namespace Go.Proofs.Yteanncfmaomhaaa.Ex
open Go Go.RowKit Go.Proofs.YteanncfmaomhaaaW.PrintWords Go.Proofs.YteanncfmaomhaaaW.PrintLast Go.Proofs.YteanncfmaomhaaaW.PrintMore Go.Proofs.Yteanncfmaomhaaa.Mono
set_option linter.unusedVariables false
set_option linter.unusedSimpArgs false
/-- Without its last one. -/
theorem check_less (l : List Vx) (p : Int) (m : Nat) (hm : l.length = m + 1) (h1 : 1 ≤ m) (h24 : m < 24) : ((checkOf l p).2 = 0 → checkOf (l.take m) p = (-1, 0)) ∧ ((checkOf l p).2 ≠ 0 → (checkOf l p).1 = (m : Int) ∨ checkOf (l.take m) p = checkOf l p) := by
  have hl : l = l.take m ++ [l[m]] := by
    rw [← List.take_succ_eq_append_getElem (by omega), List.take_of_length_le (by omega)]
  have ht : (l.take m).length = m := by rw [List.length_take]; omega
  have h := check_app (l.take m) l[m] p (by omega) (by omega)
  rw [← hl, ht] at h
  constructor
  · intro h0
    by_cases hz : (checkOf (l.take m) p).2 = 0
    · exact check_ok_pair hz
    · rw [if_neg hz] at h; rw [h] at h0; exact absurd h0 hz
  · intro h0
    by_cases hz : (checkOf (l.take m) p).2 = 0
    · rw [if_pos hz] at h
      by_cases hv : vertOf (l.take m) m l[m] (keysGo (l.take m) []) = 0
      · rw [if_pos hv] at h; rw [h] at h0; exact absurd rfl h0
      · rw [if_neg hv] at h; rw [h]; exact .inl rfl
    · rw [if_neg hz] at h; exact .inr h.symm
/-- The frame's two variables. -/
structure Ts (w0 w : World) (gt gv : Nat) (l : List Vx) (A0 : Option Addr) (c0 : Nat) (p : Int) (vx : Vx) (A1 : Option Addr) (c1 : Nat) (A4 : Option Addr) (c4 : Nat) : Prop where
  b1 : w.heap[gt]? = some (.cells #[.slice A0 l.length c0, .int .i64 p] 24 (0, 0))
  b2 : w.heap[gv]? = some (.cells #[.int .i64 vx.f0, .slice A1 vx.f1.length c1, .int .i64 vx.f2.f0, .int .i64 vx.f2.f1, .slice A4 vx.f2.f2.length c4, .int .i64 vx.f3] 40 (0, 0))
  bl : Below w0.heap.size w0 w
theorem Ts.step {w0 w w2 : World} {gt gv : Nat} {l : List Vx} {A0 : Option Addr} {c0 : Nat} {p : Int} {vx : Vx} {A1 : Option Addr} {c1 : Nat} {A4 : Option Addr} {c4 : Nat} (h : Ts w0 w gt gv l A0 c0 p vx A1 c1 A4 c4) (hb : Below w.heap.size w w2) : Ts w0 w2 gt gv l A0 c0 p vx A1 c1 A4 c4 := ⟨blk_below h.b1 hb, blk_below h.b2 hb, below_step h.bl hb⟩
theorem step_runT {P : Program} {ops : Array Oper} {o : Oper} {a : Act} {Q : Exit → Act → World → Prop} {Kc : Act → World → Prop} {W w1 : World} {N : Option Tmp} {v1 va xv : Value} (hw : Region.wanted o (yielded ops a.tmps) = true) (s x : Operand) (t : TypeId) (ho : o.op = .call { callee := .builtin .append, args := #[s, x], argTypes := #[t, t] }) (hN : o.dst = N)
    (hs : a.eval s = va) (hx : a.eval x = xv) (hr : (Builtin.append_ #[t, t] o.type #[va, xv]).run P W = .ok v1 w1) (h : Kc (a.put N v1) w1) : if Region.wanted o (yielded ops a.tmps) = true then Oper.wp P o a W Kc Q else Kc (a.put N undef) W :=
  value_ hw hN (append_exec s x t ho hs hx hr) h
set_option maxHeartbeats 8000000 in
set_option maxRecDepth 100000 in
theorem more_ok (l : List Vx) (p : Int) (vx : Vx) (A0 : Option Addr) (c0 : Nat) (A1 : Option Addr) (c1 : Nat) (A4 : Option Addr) (c4 : Nat) (w : World) (hC : Kd.C k40 w A0 l.length l) (hc : l.length ≤ c0) (hv : ∀ u ∈ l, vxOk u) (hl : l.length ≤ 1759218604441) (hvx : vxOk vx)
    (l1 : vx.f1.length ≤ c1) (r1 : Kd.C (Kd.int .i64) w A1 vx.f1.length vx.f1) (l4 : vx.f2.f2.length ≤ c4) (r4 : Kd.C k38 w A4 vx.f2.f2.length vx.f2.f2) :
    Calls Try.prog 5 #[.agg #[.slice A0 l.length c0, .int .i64 p], .agg #[.int .i64 vx.f0, .slice A1 vx.f1.length c1, .int .i64 vx.f2.f0, .int .i64 vx.f2.f1, .slice A4 vx.f2.f2.length c4, .int .i64 vx.f3]] w fun e w' => e = .returned (.bool true) ∧ Below w.heap.size w w' := by
  have HC := Aside0.mk hC
  have HC0 := Aside0.mk hc
  have HV := Aside0.mk hv
  have HVX := Aside0.mk hvx
  have L1 := Aside0.mk l1
  have R1 := Aside0.mk r1
  have L4 := Aside0.mk l4
  have R4 := Aside0.mk r4
  have HOV : Aside0 (okV l = true) := ⟨okV_of (fun u hu => (hv u hu).2.2.2)⟩
  obtain ⟨bs, hbs⟩ := small_ev l p (fun u h => (hv u h).2.2.1) hl
  obtain ⟨ks, hks⟩ := Ev.rounds hbs
  obtain ⟨cn, hcn⟩ := count_any vx.f2 hvx.2.2.1
  obtain ⟨kc, hkc⟩ := Ev.rounds hcn
  have HKS := Aside0.mk hks
  have HKC := Aside0.mk hkc
  clear hC hc hv hvx l1 r1 l4 r4 hl hbs hks hcn hkc
  go_enter Try.func5, Try.ntmps5
  go_upto_region 1 with fail
  have hs_ : (w.alloc (.cells #[.slice A0 l.length c0, .int .i64 p] 24)).heap.size = w.heap.size + 1 := by simp
  have HS : Aside0 (Ts w ((w.alloc (.cells #[.slice A0 l.length c0, .int .i64 p] 24)).alloc (.cells #[.int .i64 vx.f0, .slice A1 vx.f1.length c1, .int .i64 vx.f2.f0, .int .i64 vx.f2.f1, .slice A4 vx.f2.f2.length c4, .int .i64 vx.f3] 40)) w.heap.size (w.heap.size + 1) l A0 c0 p vx A1 c1 A4 c4) :=
    ⟨⟨blk_alloc (blk_new _ _) _, by rw [← hs_]; exact blk_new _ _, below_alloc (below_alloc (Below.refl _ _) _) _⟩⟩
  clear hs_
  generalize (w.alloc (.cells #[.slice A0 l.length c0, .int .i64 p] 24)).alloc (.cells #[.int .i64 vx.f0, .slice A1 vx.f1.length c1, .int .i64 vx.f2.f0, .int .i64 vx.f2.f1, .slice A4 vx.f2.f2.length c4, .int .i64 vx.f3] 40) = w1 at HS ⊢
  generalize w.heap.size + 1 = gv at HS ⊢
  generalize w.heap.size = gt at HS ⊢
  go_wp2_with fail
  obtain ⟨k9, hk9⟩ := Ev.rounds shown_ev
  refine (tidemilllaw05_shown.calls k9 true _ hk9).mono ?_
  rintro e w2 ⟨rfl, hb_⟩
  replace HS := Aside0.mk (HS.out.step hb_)
  clear hb_ hk9
  go_upto_region 2 with fail
  go_cut [35] (fun v35 wc => ∃ q, v35 = .bool q ∧ Aside0 (q = false → 2 ≤ l.length ∧ l.length < 24) ∧ Aside0 (Ts w wc gt gv l A0 c0 p vx A1 c1 A4 c4))
  case first =>
    have a0_ := (blk_cell HS.out.b1 0).trans (rfl : _ = some (.slice A0 l.length c0 : Value))
    have a1_ := (blk_cell HS.out.b1 1).trans (rfl : _ = some (.int .i64 p : Value))

    go_wp2_with fail
    refine (tidemilllaw05_small.calls ks A0 c0 l p bs _ (Kd.C_below HC.out HS.out.bl) HC0.out HKS.out).mono ?_
    rintro e w3 ⟨rfl, hb_⟩
    replace HS := Aside0.mk (HS.out.step hb_)
    clear hb_ a0_ a1_
    cases bs with
    | false =>
      have a0_ := (blk_cell HS.out.b1 0).trans (rfl : _ = some (.slice A0 l.length c0 : Value))
      have a1_ := (blk_cell HS.out.b1 1).trans (rfl : _ = some (.int .i64 p : Value))
      have e2_ := (blk_cell HS.out.b2 2).trans (rfl : _ = some (.int .i64 vx.f2.f0 : Value))
      have e3_ := (blk_cell HS.out.b2 3).trans (rfl : _ = some (.int .i64 vx.f2.f1 : Value))
      have e4_ := (blk_cell HS.out.b2 4).trans (rfl : _ = some (.slice A4 vx.f2.f2.length c4 : Value))

      go_wp2_with fail
      go_meet
      case rel => exact ⟨true, rfl, ⟨fun h => by cases h⟩, HS⟩
    | true =>
      have a0_ := (blk_cell HS.out.b1 0).trans (rfl : _ = some (.slice A0 l.length c0 : Value))
      have a1_ := (blk_cell HS.out.b1 1).trans (rfl : _ = some (.int .i64 p : Value))
      have e2_ := (blk_cell HS.out.b2 2).trans (rfl : _ = some (.int .i64 vx.f2.f0 : Value))
      have e3_ := (blk_cell HS.out.b2 3).trans (rfl : _ = some (.int .i64 vx.f2.f1 : Value))
      have e4_ := (blk_cell HS.out.b2 4).trans (rfl : _ = some (.slice A4 vx.f2.f2.length c4 : Value))

      go_wp2_with fail
      refine (tidemillref04_Count.calls kc vx.f2.f0 vx.f2.f1 A4 c4 vx.f2.f2 cn _ (Kd.C_below R4.out HS.out.bl) L4.out HKC.out).mono ?_
      rintro e w4 ⟨rfl, hb_⟩
      replace HS := Aside0.mk (HS.out.step hb_)
      clear hb_ a0_ a1_ e2_ e3_ e4_
      have a0_ := (blk_cell HS.out.b1 0).trans (rfl : _ = some (.slice A0 l.length c0 : Value))
      have a1_ := (blk_cell HS.out.b1 1).trans (rfl : _ = some (.int .i64 p : Value))
      have e2_ := (blk_cell HS.out.b2 2).trans (rfl : _ = some (.int .i64 vx.f2.f0 : Value))
      have e3_ := (blk_cell HS.out.b2 3).trans (rfl : _ = some (.int .i64 vx.f2.f1 : Value))
      have e4_ := (blk_cell HS.out.b2 4).trans (rfl : _ = some (.slice A4 vx.f2.f2.length c4 : Value))

      by_cases h1 : cn > 1000
      · have h1b : decide (cn > 1000) = true := by simpa using h1
        clear h1
        go_wp2_with fail
        go_meet
        case rel => exact ⟨true, rfl, ⟨fun h => by cases h⟩, HS⟩
      have h1b : decide (cn > 1000) = false := by simpa using h1
      clear h1
      by_cases h2 : l.length < 2
      · have h2b : decide ((l.length : Int) < 2) = true := by simp; omega
        have h2c : decide (l.length < 2) = true := by simp; omega
        clear h2
        go_wp2_with fail
        go_meet
        case rel => exact ⟨true, rfl, ⟨fun h => by cases h⟩, HS⟩
      have h2b : decide ((l.length : Int) < 2) = false := by simp; omega
      have h2c : decide (l.length < 2) = false := by simp; omega
      obtain ⟨q, HQ⟩ : ∃ q, Aside0 (decide ((l.length : Int) ≥ 24) = q) := ⟨_, ⟨rfl⟩⟩
      have hq := HQ.out
      have HQ2 : Aside0 (q = false → 2 ≤ l.length ∧ l.length < 24) := ⟨fun h => by rw [h] at hq; simp at hq; omega⟩
      clear h2
      go_wp2_with fail
      go_meet
      case rel => exact ⟨q, by first | rfl | (congr 1), HQ2, HS⟩
  case rest =>
    clear HS
    obtain ⟨q, rfl, HQ, HS⟩ := hcut
    cases q with
    | true =>
      have HB := Aside0.mk HS.out.bl
      go_wp2_with fail
      go_ret
      exact ⟨rfl, HB.out⟩
    | false =>
      have hl2 := (HQ.out rfl).1
      have hl24 := (HQ.out rfl).2
      go_upto_region 4 with fail
      obtain ⟨⟨i, e0⟩, HCK⟩ : ∃ q, Aside0 (checkOf l p = q) := ⟨_, ⟨rfl⟩⟩
      have HCO := Aside0.mk (check_ok A0 c0 l p wc (Kd.C_below HC.out HS.out.bl) HOV.out)
      rw [HCK.out] at HCO
      simp only at HCO
      have a0_ := (blk_cell HS.out.b1 0).trans (rfl : _ = some (.slice A0 l.length c0 : Value))
      have a1_ := (blk_cell HS.out.b1 1).trans (rfl : _ = some (.int .i64 p : Value))

      go_wp2_with fail
      refine HCO.out.mono ?_
      rintro e w3 ⟨rfl, hb_⟩
      replace HS := Aside0.mk (HS.out.step hb_)
      clear hb_ a0_ a1_ HCO HQ
      have a0_ := (blk_cell HS.out.b1 0).trans (rfl : _ = some (.slice A0 l.length c0 : Value))
      have a1_ := (blk_cell HS.out.b1 1).trans (rfl : _ = some (.int .i64 p : Value))

      go_upto_region 6 with fail
      clear a0_ a1_
      have hb_ := below_alloc (Below.refl w3.heap.size w3) (.cells #[.slice A0 l.length c0, .int .i64 p] 24)
      have HM := Aside0.mk (blk_new w3 (.cells #[.slice A0 l.length c0, .int .i64 p] 24))
      generalize w3.alloc (.cells #[.slice A0 l.length c0, .int .i64 p] 24) = w4 at hb_ HM ⊢
      have HLTW : Aside0 (gt < w3.heap.size ∧ gv < w3.heap.size) := ⟨⟨blk_lt HS.out.b1, blk_lt HS.out.b2⟩⟩
      have HG8 : Aside0 (w.heap.size ≤ w3.heap.size) := ⟨HS.out.bl.size⟩
      replace HS := Aside0.mk (HS.out.step hb_)
      obtain ⟨g8, HG8E⟩ : ∃ g, Aside0 (w3.heap.size = g) := ⟨_, ⟨rfl⟩⟩
      rw [HG8E.out] at HM HG8 ⊢
      clear hb_
      obtain ⟨m, hm⟩ : ∃ m, l.length = m + 1 := ⟨l.length - 1, by omega⟩
      have HLM := Aside0.mk hm
      have hw_ : wrap64 ((l.length : Int) - 1) = (m : Int) := by unfold wrap64; omega
      have hs1 : (0 : Int) ≤ (m : Int) := by omega
      have hs2 : (m : Int) ≤ (c0 : Int) := by have := HC0.out; omega
      have hs3 : (1 : Int) ≤ (l.length : Int) := by omega
      have hs4 : (l.length : Int) - 1 ≤ (c0 : Int) := by have := HC0.out; omega
      clear hm
      have a0_ := (blk_cell HS.out.b1 0).trans (rfl : _ = some (.slice A0 l.length c0 : Value))
      have a1_ := (blk_cell HS.out.b1 1).trans (rfl : _ = some (.int .i64 p : Value))

      have z0_ := (blk_cell HM.out 0).trans (rfl : _ = some (.slice A0 l.length c0 : Value))
      have f0_ := blk_frozen HM.out 0
      go_upto_region 7 with fail
      clear a0_ a1_ z0_ f0_ hw_ hs1 hs2 hs3 hs4
      rw [show l.length - 1 = m by have := HLM.out; omega]
      have HLT : Aside0 (gt < g8 ∧ gv < g8) := ⟨⟨by have := HG8E.out; have := HLTW.out.1; omega, by have := HG8E.out; have := HLTW.out.2; omega⟩⟩
      replace HM := Aside0.mk (blk_put HM.out 0 (.slice A0 m c0) (rfl : _ = (#[.slice A0 m c0, .int .i64 p] : Array Value)))
      replace HS : Aside0 (Ts w (w4.setCell ⟨g8, 0, none⟩ (.slice A0 m c0)) gt gv l A0 c0 p vx A1 c1 A4 c4) := ⟨⟨blk_far HS.out.b1 (p := ⟨g8, 0, none⟩) (by have := HLT.out.1; show gt ≠ g8; omega) _, blk_far HS.out.b2 (p := ⟨g8, 0, none⟩) (by have := HLT.out.2; show gv ≠ g8; omega) _, below_set HS.out.bl HG8.out⟩⟩
      generalize w4.setCell ⟨g8, 0, none⟩ (.slice A0 m c0) = w5 at HM HS ⊢
      have hlm := HLM.out
      have ht : (l.take m).length = m := by rw [List.length_take]; omega
      have HCL := check_ok A0 c0 (l.take m) p w5 (by rw [ht]; exact C_take (Kd.C_below HC.out HS.out.bl) m (by omega)) (okV_of (fun u hu => (HV.out u (List.mem_of_mem_take hu)).2.2.2))
      rw [ht] at HCL
      have HLES := Aside0.mk (check_less l p m hlm (by omega) (by omega))
      obtain ⟨⟨j2, f2⟩, HCK2⟩ : ∃ q, Aside0 (checkOf (l.take m) p = q) := ⟨_, ⟨rfl⟩⟩
      rw [HCK2.out] at HCL HLES
      rw [HCK.out] at HLES
      simp only at HCL HLES
      have HCL2 := Aside0.mk HCL
      clear HCL hlm ht
      have z0_ := (blk_cell HM.out 0).trans (rfl : _ = some (.slice A0 m c0 : Value))
      have z1_ := (blk_cell HM.out 1).trans (rfl : _ = some (.int .i64 p : Value))
      go_wp2_with fail
      refine HCL2.out.mono ?_
      rintro e w6 ⟨rfl, hb_⟩
      replace HS := Aside0.mk (HS.out.step hb_)
      clear hb_ z0_ z1_ HCL2 HM
      have a0_ := (blk_cell HS.out.b1 0).trans (rfl : _ = some (.slice A0 l.length c0 : Value))
      have a1_ := (blk_cell HS.out.b1 1).trans (rfl : _ = some (.int .i64 p : Value))

      go_upto_region 9 with fail
      clear a0_ a1_
      have HBB := Aside0.mk (below_alloc (Below.refl w6.heap.size w6) (.cells #[.slice A0 l.length c0, .int .i64 p] 24))
      have HM2 := Aside0.mk (blk_new w6 (.cells #[.slice A0 l.length c0, .int .i64 p] 24))
      have HBW := Aside0.mk (below_alloc HS.out.bl (.cells #[.slice A0 l.length c0, .int .i64 p] 24))
      generalize w6.alloc (.cells #[.slice A0 l.length c0, .int .i64 p] 24) = w7 at HBB HM2 HBW ⊢
      obtain ⟨g11, HG11⟩ : ∃ g, Aside0 (w6.heap.size = g) := ⟨_, ⟨rfl⟩⟩
      rw [HG11.out] at HM2 ⊢
      have HGM : Aside0 (w6.heap.size ≤ g11) := ⟨Nat.le_of_eq HG11.out⟩
      have HSB := HS
      have HL0 : Aside0 (0 < l.length) := ⟨by omega⟩
      have HL1 : Aside0 (l.length ≤ 1000) := ⟨by omega⟩
      obtain ⟨ad, cs, hA_, hrp_, hcc_, _⟩ := inner_C HC.out HL0.out
      have HAD := Aside0.mk hA_
      have HRP : Aside0 (Reps (Kd.K k40 w) 6 l cs) := ⟨hrp_⟩
      have HCC := Aside0.mk hcc_
      clear hA_ hrp_ hcc_
      have HKV : Aside0 (∀ wX, Below w.heap.size w wX → Kd.K k40 wX vx [.int .i64 vx.f0, .slice A1 vx.f1.length c1, .int .i64 vx.f2.f0, .int .i64 vx.f2.f1, .slice A4 vx.f2.f2.length c4, .int .i64 vx.f3]) := ⟨fun wX hb => k40_mk wX vx L1.out (Kd.C_below R1.out hb) L4.out (Kd.C_below R4.out hb)⟩
      refine start_ (n := 9) (S := fun w' => Below w6.heap.size w6 w') (ds := []) #[false, false, false, false, false, false, false, false, false] (by kernel_rfl) rfl rfl (below_drew HBB.out) (fun hHeld => ?_)
      refine pure_ (i := 1) (N := some 58) (v := ?_) (a' := ?_) #[false, true, false, false, false, false, false, false, false] rfl rfl (by kernel_rfl) (fun _ _ _ h => h) (Or.inl ⟨by rfl, ?_⟩) ?_ ?_
      rotate_left
      · intro w'
        go_simp
        with_reducible rfl
      rotate_left
      · simp only [Act.put, List.setIfInBounds_toArray, List.set_cons_zero, List.set_cons_succ, i64_w, i32_w]
        rfl
      refine take_ (i := 2) (N := some 59) (v := ?_) (a' := ?_) #[false, true, true, false, false, false, false, false, false] rfl rfl (by kernel_rfl) (fun _ _ _ h => h) (Or.inl ⟨by rfl, ?_⟩) hHeld ?_ ?_
      rotate_left
      · intro w' hS
        have y0_ := (blk_cell (blk_below HSB.out.b1 hS) 0).trans (rfl : _ = some (.slice A0 l.length c0 : Value))
        go_simp
        with_reducible rfl
      rotate_left
      · simp only [Act.put, List.setIfInBounds_toArray, List.set_cons_zero, List.set_cons_succ, i64_w, i32_w]
        rfl
      refine take_ (i := 4) (N := some 61) (v := ?_) (a' := ?_) #[false, true, true, false, true, false, false, false, false] rfl rfl (by kernel_rfl) (fun _ _ _ h => h) (Or.inl ⟨by rfl, ?_⟩) hHeld ?_ ?_
      rotate_left
      · intro w' hS
        have y0_ := (blk_cell (blk_below HSB.out.b2 hS) 0).trans (rfl : _ = some (.int .i64 vx.f0 : Value))
        have y1_ := (blk_cell (blk_below HSB.out.b2 hS) 1).trans (rfl : _ = some (.slice A1 vx.f1.length c1 : Value))
        have y2_ := (blk_cell (blk_below HSB.out.b2 hS) 2).trans (rfl : _ = some (.int .i64 vx.f2.f0 : Value))
        have y3_ := (blk_cell (blk_below HSB.out.b2 hS) 3).trans (rfl : _ = some (.int .i64 vx.f2.f1 : Value))
        have y4_ := (blk_cell (blk_below HSB.out.b2 hS) 4).trans (rfl : _ = some (.slice A4 vx.f2.f2.length c4 : Value))
        have y5_ := (blk_cell (blk_below HSB.out.b2 hS) 5).trans (rfl : _ = some (.int .i64 vx.f3 : Value))
        go_simp
        with_reducible rfl
      rotate_left
      · simp only [Act.put, List.setIfInBounds_toArray, List.set_cons_zero, List.set_cons_succ, i64_w, i32_w]
        rfl
      refine mono_ (l := #[false, true, true, false, true, false, false, false, false]) [⟨0, 57, []⟩, ⟨3, 60, [0]⟩, ⟨5, 62, []⟩] #[true, true, true, true, true, true, false, false, false] (fun s v w_ => (s = 57 → E0 w_ v) ∧ (s = 60 → OW w7.heap.size l.length cs w_ v) ∧ (s = 62 → BX [.int .i64 vx.f0, .slice A1 vx.f1.length c1, .int .i64 vx.f2.f0, .int .i64 vx.f2.f1, .slice A4 vx.f2.f2.length c4, .int .i64 vx.f3] w_ v) ∧ True) (fun w_ => Below w7.heap.size w7 w_) 3 (by kernel_rfl) (by kernel_rfl) ?_ (fun _ h => below_step HBB.out h) (below_drew (Below.refl _ _)) ?_ ?_ ?_
      · simp
      · intro s v w_ w2_ h hb
        exact ⟨fun e => (h.1 e).below hb, fun e => (h.2.1 e).below hb, fun e => (h.2.2.1 e).below hb, trivial⟩
      · intro c hc a2 w2_ hG hbase hdep
        simp only [List.mem_cons, List.not_mem_nil, or_false] at hc
        rcases hc with rfl | rfl | rfl
        · skip
          refine wpOp_mono (fun a3 w3_ h => ?_) (valueM_ (w0 := w7) (T := fun v w_ => E0 w_ v) (w1 := w2_.alloc (.cells #[] 40)) (v := .slice (some ⟨w2_.heap.size, 0, none⟩) 0 0) (by rfl) rfl rfl (by first | (go_simp; done) | (go_simp; rfl)) hG (⟨_, rfl⟩) (below_alloc (Below.refl _ _) _))
          obtain ⟨v, h1, h2, h3, h4⟩ := h
          exact ⟨v, h1, ⟨fun _ => h2, fun e => absurd e (by decide), fun e => absurd e (by decide), trivial⟩, h3, h4⟩
        · skip
          obtain ⟨v57, e57, k_⟩ := hdep ⟨0, 57, []⟩ (by simp) (by simp)
          have k57 : E0 w2_ v57 := k_.1 rfl
          have e59 := (hbase 59 (by simp)).trans (rfl : _ = some (.slice A0 l.length c0 : Value))
          obtain ⟨va, wa, hra, hoa, hba⟩ := app_first w w2_ l A0 c0 cs ad HAD.out HL0.out HL1.out HRP.out HCC.out (below_step HBW.out hG) v57 k57 22
          refine wpOp_mono (fun a3 w3_ h => ?_) (valueM_ (w0 := w7) (T := fun v w_ => OW w7.heap.size l.length cs w_ v) (w1 := wa) (v := va) (by rfl) rfl rfl (append_exec (.tmp 57) (.tmp 59) 22 rfl (eval_tmp e57) (eval_tmp e59) hra) hG (hoa.lower hG.size) (hba))
          obtain ⟨v, h1, h2, h3, h4⟩ := h
          exact ⟨v, h1, ⟨fun e => absurd e (by decide), fun _ => h2, fun e => absurd e (by decide), trivial⟩, h3, h4⟩
        · skip
          have e61 := (hbase 61 (by simp)).trans (rfl : _ = some (.agg #[.int .i64 vx.f0, .slice A1 vx.f1.length c1, .int .i64 vx.f2.f0, .int .i64 vx.f2.f1, .slice A4 vx.f2.f2.length c4, .int .i64 vx.f3] : Value))
          refine wpOp_mono (fun a3 w3_ h => ?_) (valueM_ (w0 := w7) (T := fun v w_ => BX [.int .i64 vx.f0, .slice A1 vx.f1.length c1, .int .i64 vx.f2.f0, .int .i64 vx.f2.f1, .slice A4 vx.f2.f2.length c4, .int .i64 vx.f3] w_ v) (w1 := w2_.alloc (.cells #[.int .i64 vx.f0, .slice A1 vx.f1.length c1, .int .i64 vx.f2.f0, .int .i64 vx.f2.f1, .slice A4 vx.f2.f2.length c4, .int .i64 vx.f3] 40)) (v := .slice (some ⟨w2_.heap.size, 0, none⟩) 1 1) (by rfl) rfl rfl (by have e_ := eval_tmp e61; first | (go_simp; done) | (go_simp; rfl)) hG (⟨_, rfl, blk_new _ _⟩) (below_alloc (Below.refl _ _) _))
          obtain ⟨v, h1, h2, h3, h4⟩ := h
          exact ⟨v, h1, ⟨fun e => absurd e (by decide), fun e => absurd e (by decide), fun _ => h2, trivial⟩, h3, h4⟩
      intro vs w2_ hG_ hT_
      have k57 := (hT_ ⟨0, 57, []⟩ (by simp)).1 rfl
      have k60 := (hT_ ⟨3, 60, [0]⟩ (by simp)).2.1 rfl
      have k62 := (hT_ ⟨5, 62, []⟩ (by simp)).2.2.1 rfl
      clear hT_ hHeld
      have hHeld := hG_
      refine norm_ (a' := ?_) ?_ ?_
      rotate_left
      · simp only [putAll, List.map_cons, List.map_nil, Act.put, List.setIfInBounds_toArray, List.set_cons_zero, List.set_cons_succ]
        rfl
      generalize vs 57 = v57 at k57 ⊢
      generalize vs 60 = v60 at k60 ⊢
      generalize vs 62 = v62 at k62 ⊢
      refine one_ (i := 6) (N := some 63) #[true, true, true, true, true, true, true, false, false] rfl rfl (by kernel_rfl) (by simp) (fun K hK => ?_)
      obtain ⟨v9, w9, hrun_, ho_, hb1_, hgr_, hob_⟩ := app_more w7 w2_ w7.heap.size l.length cs [.int .i64 vx.f0, .slice A1 vx.f1.length c1, .int .i64 vx.f2.f0, .int .i64 vx.f2.f1, .slice A4 vx.f2.f2.length c4, .int .i64 vx.f3] v60 v62 k60 k62 HL1.out rfl (by simp [Value.oneCell']) hG_ (Nat.le_refl _) hG_.size 22
      refine step_runT (by rfl) (.tmp 60) (.tmp 62) 22 rfl rfl rfl rfl hrun_ ?_
      have hm_ := blk_grown (blk_below HM2.out hG_) hgr_ (fun h => by have h5 := hob_ _ h.symm; have h6 := blk_lt HM2.out; omega)
      have hb_ := below_step HBB.out hb1_
      refine hK.out _ _ hb_ (fun _ => ?_)
      clear hK K
      refine norm_ (a' := ?_) ?_ ?_
      rotate_left
      · show Act.put _ (some 63) _ = _
        simp only [Act.put, List.setIfInBounds_toArray, List.set_cons_zero, List.set_cons_succ, i64_w, i32_w]
        rfl
      replace hHeld := hb_
      clear hb_
      refine pure_ (i := 7) (N := some 64) (v := ?_) (a' := ?_) #[true, true, true, true, true, true, true, true, false] rfl rfl (by kernel_rfl) (fun _ _ _ h => h) (Or.inl ⟨by rfl, ?_⟩) ?_ ?_
      rotate_left
      · intro w'
        go_simp
        with_reducible rfl
      rotate_left
      · simp only [Act.put, List.setIfInBounds_toArray, List.set_cons_zero, List.set_cons_succ, i64_w, i32_w]
        rfl
      refine one_ (i := 8) (N := none) #[true, true, true, true, true, true, true, true, true] rfl rfl (by kernel_rfl) (by simp) (fun K hK => ?_)
      obtain ⟨g9, c9, rfl, hc9_, hg9_, hC9_⟩ := C_of_own (d := k40) (show World.ownsRow w9 w7.heap.size 40 6 v9 (l.length + 1) _ from ho_) ((reps_below HRP.out (below_step HBW.out hb1_)).snoc (HKV.out w9 (below_step HBW.out hb1_)) rfl) (by rw [List.length_append]; rfl) (Nat.succ_pos _)
      have z0_ := (blk_cell hm_ 0).trans rfl
      have f0_ := blk_frozen hm_ 0
      refine skip_ (w1 := w9.setCell ⟨g11, 0, none⟩ (.slice (some ⟨g9, 0, none⟩) (l.length + 1) c9)) (by rfl) rfl (by first | (go_simp; done) | (go_simp; rfl)) ?_
      clear z0_ f0_
      have hb_ : Below w6.heap.size w6 (w9.setCell ⟨g11, 0, none⟩ (.slice (some ⟨g9, 0, none⟩) (l.length + 1) c9)) := below_set hHeld HGM.out
      refine hK.out _ _ hb_ (fun _ => ?_)
      clear hK K
      skip
      clear hb_
      refine done_ (by kernel_rfl) ?_

      have HM10 := Aside0.mk (blk_put hm_ 0 (.slice (some ⟨g9, 0, none⟩) (l.length + 1) c9) (rfl : _ = (#[.slice (some ⟨g9, 0, none⟩) (l.length + 1) c9, .int .i64 p] : Array Value)))
      have HO10 := Aside0.mk (OW.set ho_ (g := g11) (by have := blk_lt HM2.out; omega) 0 (.slice (some ⟨g9, 0, none⟩) (l.length + 1) c9))
      have hb_ : Below w6.heap.size w6 (w9.setCell ⟨g11, 0, none⟩ (.slice (some ⟨g9, 0, none⟩) (l.length + 1) c9)) := below_set hHeld HGM.out
      generalize w9.setCell ⟨g11, 0, none⟩ (.slice (some ⟨g9, 0, none⟩) (l.length + 1) c9) = w10 at HM10 HO10 hb_ ⊢
      replace HS := Aside0.mk (HS.out.step hb_)
      have HC10 : Aside0 (Kd.C k40 w10 (some ⟨g9, 0, none⟩) (l ++ [vx]).length (l ++ [vx])) := ⟨by
        obtain ⟨g, c, he, _, _, hC⟩ := C_of_own (d := k40) (show World.ownsRow w10 w7.heap.size 40 6 _ (l.length + 1) _ from HO10.out) ((reps_below HRP.out HS.out.bl).snoc (HKV.out w10 HS.out.bl) rfl) (by rw [List.length_append]; rfl) (Nat.succ_pos _)
        injection he with he1
        injection he1 with he1
        injection he1 with he1
        subst he1
        rw [List.length_append]
        exact hC⟩
      clear hb_ ho_ hm_ hC9_ hgr_ hob_ hb1_ hHeld hG_ HSB HBB HBW HM2
      have HAPP := Aside0.mk (check_app l vx p (by omega) hl24)
      obtain ⟨⟨k3, g3⟩, HCK3⟩ : ∃ q, Aside0 (checkOf (l ++ [vx]) p = q) := ⟨_, ⟨rfl⟩⟩
      have HCO3 := check_ok (some ⟨g9, 0, none⟩) c9 (l ++ [vx]) p w10 HC10.out (okV_of (fun u hu => by
        rcases List.mem_append.1 hu with hu | hu
        · exact (HV.out u hu).2.2.2
        · obtain rfl : u = vx := by simpa using hu
          exact HVX.out.2.2.2))
      rw [HCK3.out, show (l ++ [vx]).length = l.length + 1 by rw [List.length_append]; rfl] at HCO3
      rw [HCK3.out, HCK.out] at HAPP
      simp only at HCO3 HAPP
      have HCO4 := Aside0.mk HCO3
      clear HCO3
      have z0_ := (blk_cell HM10.out 0).trans (rfl : _ = some (.slice (some ⟨g9, 0, none⟩) (l.length + 1) c9 : Value))
      have z1_ := (blk_cell HM10.out 1).trans (rfl : _ = some (.int .i64 p : Value))
      go_wp2_with fail
      refine HCO4.out.mono ?_
      rintro e w11 ⟨rfl, hb_⟩
      replace HS := Aside0.mk (HS.out.step hb_)
      clear hb_ z0_ z1_ HCO4 HM10 HO10 HC10
      have HB := Aside0.mk HS.out.bl
      have a0_ := (blk_cell HS.out.b1 0).trans (rfl : _ = some (.slice A0 l.length c0 : Value))
      have a1_ := (blk_cell HS.out.b1 1).trans (rfl : _ = some (.int .i64 p : Value))

      have hlm := HLM.out
      by_cases he : e0 = 0
      · have hj := HLES.out.1 he
        injection hj with hj1 hj2
        subst hj1 hj2
        have ha := HAPP.out
        rw [if_pos he] at ha
        subst he
        by_cases hv0 : vertOf l l.length vx (keysGo l []) = 0
        · rw [if_pos hv0] at ha
          injection ha with ha1 ha2
          subst ha1 ha2
          clear hv0
          go_wp2_with fail
          go_ret
          exact ⟨rfl, HB.out⟩
        · rw [if_neg hv0] at ha
          injection ha with ha1 ha2
          have hg : (g3 == 0) = false := by rw [ha2]; simpa using hv0
          subst ha1
          clear hv0 ha2
          go_wp2_with fail
          go_ret
          exact ⟨rfl, HB.out⟩
      · have ha := HAPP.out
        rw [if_neg he] at ha
        injection ha with ha1 ha2
        subst ha1 ha2
        have heb : (g3 == 0) = false := by simpa using he
        by_cases hi : k3 = (m : Int)
        · have hib : (k3 == (l.length : Int) - 1) = true := by rw [hi, hlm]; simp
          clear he hi hlm
          go_wp2_with fail
          go_ret
          exact ⟨rfl, HB.out⟩
        · have hib : (k3 == (l.length : Int) - 1) = false := by
            rw [beq_eq_false_iff_ne]
            omega
          rcases HLES.out.2 he with h | h
          · exact absurd h hi
          · injection h with h1 h2
            subst h1 h2
            clear he hi hlm
            go_wp2_with fail
            go_ret
            exact ⟨rfl, HB.out⟩
theorem open_T {w : World} {t : List Vx × Int} {cs : List Value} (h : (Kd.pair (Kd.slice 40 k40) (Kd.int .i64)).K w t cs) : ∃ A c, cs = [.slice A t.1.length c, .int .i64 t.2] ∧ t.1.length ≤ c ∧ Kd.C k40 w A t.1.length t.1 := by
  obtain ⟨_, _, rfl, ⟨A, c, rfl, l1, g1⟩, rfl⟩ := h
  exact ⟨A, c, rfl, l1, g1⟩
end Go.Proofs.Yteanncfmaomhaaa.Ex
