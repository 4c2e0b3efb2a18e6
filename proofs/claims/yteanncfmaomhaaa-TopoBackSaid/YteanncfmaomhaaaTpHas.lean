/- Has a vertex what its kind has? -/
import Derived.Test.YteanncfmaomhaaaTpForm
import Derived.Deep.DeepCutAuto
namespace Go.Proofs.Yteanncfmaomhaaa.Ex
open Go Go.RowKit Go.Proofs.YteanncfmaomhaaaW.PrintWords Go.Proofs.YteanncfmaomhaaaW.PrintLast Go.Proofs.YteanncfmaomhaaaW.PrintMore
set_option linter.unusedVariables false
set_option linter.unusedSimpArgs false
theorem idxV1 (w : World) : (Instr.index 72 formsV (.int .i64 1)).run Try.prog w = .ok (formV (fmOf 1)) w := by kernel_rfl
theorem idxV2 (w : World) : (Instr.index 72 formsV (.int .i64 2)).run Try.prog w = .ok (formV (fmOf 2)) w := by kernel_rfl
theorem idxV3 (w : World) : (Instr.index 72 formsV (.int .i64 3)).run Try.prog w = .ok (formV (fmOf 3)) w := by kernel_rfl
theorem idxV4 (w : World) : (Instr.index 72 formsV (.int .i64 4)).run Try.prog w = .ok (formV (fmOf 4)) w := by kernel_rfl
theorem idxV5 (w : World) : (Instr.index 72 formsV (.int .i64 5)).run Try.prog w = .ok (formV (fmOf 5)) w := by kernel_rfl
theorem idxV6 (w : World) : (Instr.index 72 formsV (.int .i64 6)).run Try.prog w = .ok (formV (fmOf 6)) w := by kernel_rfl
theorem idxV7 (w : World) : (Instr.index 72 formsV (.int .i64 7)).run Try.prog w = .ok (formV (fmOf 7)) w := by kernel_rfl
theorem idxV8 (w : World) : (Instr.index 72 formsV (.int .i64 8)).run Try.prog w = .ok (formV (fmOf 8)) w := by kernel_rfl
theorem idxV9 (w : World) : (Instr.index 72 formsV (.int .i64 9)).run Try.prog w = .ok (formV (fmOf 9)) w := by kernel_rfl
theorem idxV10 (w : World) : (Instr.index 72 formsV (.int .i64 10)).run Try.prog w = .ok (formV (fmOf 10)) w := by kernel_rfl
theorem idxV (k : Int) (h : 1 ≤ k ∧ k ≤ 10) (w : World) : (Instr.index 72 formsV (.int .i64 k)).run Try.prog w = .ok (formV (fmOf k)) w := by
  have hk : k = 1 ∨ k = 2 ∨ k = 3 ∨ k = 4 ∨ k = 5 ∨ k = 6 ∨ k = 7 ∨ k = 8 ∨ k = 9 ∨ k = 10 := by omega
  clear h
  rcases hk with rfl | rfl | rfl | rfl | rfl | rfl | rfl | rfl | rfl | rfl
  · exact idxV1 w
  · exact idxV2 w
  · exact idxV3 w
  · exact idxV4 w
  · exact idxV5 w
  · exact idxV6 w
  · exact idxV7 w
  · exact idxV8 w
  · exact idxV9 w
  · exact idxV10 w
theorem idx_run (k : Int) (h : 1 ≤ k ∧ k ≤ 10) (ρ : Operand → Value) (o : Oper) (x y : Operand) (ho : o.op = .index 72 x y) (hx : ρ x = formsV) (hy : ρ y = .int .i64 k) (w : World) : (execOp ρ o).run Try.prog w = .ok (.value (formV (fmOf k))) w := by
  have h1 := idxV k h w
  unfold execOp
  simp only [ho, hx, hy, Sem.run_bind, h1, Sem.run_pure, Result.andThen_ok]
theorem mayT (w : World) (e : E) (A : Option Addr) (c : Nat) (l1 : e.f2.length ≤ c) (r1 : Kd.C k38 w A e.f2.length e.f2) : Calls Try.prog 40 #[.agg #[.int .i64 e.f0, .int .i64 e.f1, .slice A e.f2.length c]] w fun x w' => x = .returned (.bool (mayB e)) ∧ Below w.heap.size w w' := by
  obtain ⟨k, hk⟩ := Ev.rounds (May_ev e)
  exact expr_May.calls k _ _ A c _ _ w r1 l1 hk
theorem usesT (w : World) (e : E) (A : Option Addr) (c : Nat) (l1 : e.f2.length ≤ c) (r1 : Kd.C k38 w A e.f2.length e.f2) (hm : mayB e = true) : Calls Try.prog 46 #[.agg #[.int .i64 e.f0, .int .i64 e.f1, .slice A e.f2.length c], .int .i64 5] w fun x w' => x = .returned (.bool (usesB 16 e)) ∧ Below w.heap.size w w' := by
  obtain ⟨k, hk⟩ := Ev.rounds (usesB_ev 16 e (mayB_ok hm))
  exact expr_Uses.calls k _ _ A c _ _ _ w r1 l1 hk
/-- The frame's two variables. -/
structure Hs (w0 w : World) (g2 g3 : Nat) (f : Fm) (v : Vx) (A1 : Option Addr) (c1 : Nat) (A4 : Option Addr) (c4 : Nat) : Prop where
  b2 : w.heap[g2]? = some (.cells #[.int .i64 f.fr, .bool f.e, .bool f.acc, .int .i64 f.least, .int .i64 f.most, .bool f.own] 71 (0, 0))
  b3 : w.heap[g3]? = some (.cells #[.int .i64 v.f0, .slice A1 v.f1.length c1, .int .i64 v.f2.f0, .int .i64 v.f2.f1, .slice A4 v.f2.f2.length c4, .int .i64 v.f3] 40 (0, 0))
  bl : Below w0.heap.size w0 w
theorem Hs.step {w0 w w2 : World} {g2 g3 : Nat} {f : Fm} {v : Vx} {A1 : Option Addr} {c1 : Nat} {A4 : Option Addr} {c4 : Nat} (h : Hs w0 w g2 g3 f v A1 c1 A4 c4) (hb : Below w.heap.size w w2) : Hs w0 w2 g2 g3 f v A1 c1 A4 c4 := ⟨blk_below h.b2 hb, blk_below h.b3 hb, below_step h.bl hb⟩
theorem Hs.cells2 {w0 w : World} {g2 g3 : Nat} {f : Fm} {v : Vx} {A1 : Option Addr} {c1 : Nat} {A4 : Option Addr} {c4 : Nat} (h : Hs w0 w g2 g3 f v A1 c1 A4 c4) : w.cell? ⟨g2, 0, none⟩ = some (.int .i64 f.fr) ∧ w.cell? ⟨g2, 1, none⟩ = some (.bool f.e) ∧ w.cell? ⟨g2, 2, none⟩ = some (.bool f.acc) ∧ w.cell? ⟨g2, 3, none⟩ = some (.int .i64 f.least) ∧ w.cell? ⟨g2, 4, none⟩ = some (.int .i64 f.most) :=
  ⟨(blk_cell h.b2 0).trans rfl, (blk_cell h.b2 1).trans rfl, (blk_cell h.b2 2).trans rfl, (blk_cell h.b2 3).trans rfl, (blk_cell h.b2 4).trans rfl⟩
theorem Hs.cells3 {w0 w : World} {g2 g3 : Nat} {f : Fm} {v : Vx} {A1 : Option Addr} {c1 : Nat} {A4 : Option Addr} {c4 : Nat} (h : Hs w0 w g2 g3 f v A1 c1 A4 c4) : w.cell? ⟨g3, 1, none⟩ = some (.slice A1 v.f1.length c1) ∧ w.cell? ⟨g3, 2, none⟩ = some (.int .i64 v.f2.f0) ∧ w.cell? ⟨g3, 3, none⟩ = some (.int .i64 v.f2.f1) ∧ w.cell? ⟨g3, 4, none⟩ = some (.slice A4 v.f2.f2.length c4) ∧ w.cell? ⟨g3, 5, none⟩ = some (.int .i64 v.f3) :=
  ⟨(blk_cell h.b3 1).trans rfl, (blk_cell h.b3 2).trans rfl, (blk_cell h.b3 3).trans rfl, (blk_cell h.b3 4).trans rfl, (blk_cell h.b3 5).trans rfl⟩
set_option maxHeartbeats 4000000 in
set_option maxRecDepth 100000 in
theorem has_ok (f : Fm) (v : Vx) (A1 : Option Addr) (c1 : Nat) (A4 : Option Addr) (c4 : Nat) (w : World) (l4 : v.f2.f2.length ≤ c4) (r4 : Kd.C k38 w A4 v.f2.f2.length v.f2.f2) :
    Calls Try.prog 34 #[formV f, .agg #[.int .i64 v.f0, .slice A1 v.f1.length c1, .int .i64 v.f2.f0, .int .i64 v.f2.f1, .slice A4 v.f2.f2.length c4, .int .i64 v.f3]] w fun e w' => e = .returned (.bool (hasB f v)) ∧ Below w.heap.size w w' := by
  unfold formV
  have L4 := Aside0.mk l4
  have R4 := Aside0.mk r4
  clear l4 r4
  obtain ⟨z, HZ⟩ : ∃ z, Aside0 (zeroB v.f2 = z) := ⟨_, ⟨rfl⟩⟩
  obtain ⟨b, HBF⟩ : ∃ b, Aside0 (formB f v.f2 = b) := ⟨_, ⟨rfl⟩⟩
  obtain ⟨r, HRS⟩ : ∃ r, Aside0 (hasB f v = r) := ⟨_, ⟨rfl⟩⟩
  rw [HRS.out]
  go_enter Try.func34, Try.ntmps34
  go_upto_region 1 with fail
  have hs_ : (w.alloc (.cells #[.int .i64 f.fr, .bool f.e, .bool f.acc, .int .i64 f.least, .int .i64 f.most, .bool f.own] 71)).heap.size = w.heap.size + 1 := by simp
  have HS : Aside0 (Hs w ((w.alloc (.cells #[.int .i64 f.fr, .bool f.e, .bool f.acc, .int .i64 f.least, .int .i64 f.most, .bool f.own] 71)).alloc (.cells #[.int .i64 v.f0, .slice A1 v.f1.length c1, .int .i64 v.f2.f0, .int .i64 v.f2.f1, .slice A4 v.f2.f2.length c4, .int .i64 v.f3] 40)) w.heap.size (w.heap.size + 1) f v A1 c1 A4 c4) :=
    ⟨⟨blk_alloc (blk_new _ _) _, by rw [← hs_]; exact blk_new _ _, below_alloc (below_alloc (Below.refl _ _) _) _⟩⟩
  clear hs_
  generalize (w.alloc (.cells #[.int .i64 f.fr, .bool f.e, .bool f.acc, .int .i64 f.least, .int .i64 f.most, .bool f.own] 71)).alloc (.cells #[.int .i64 v.f0, .slice A1 v.f1.length c1, .int .i64 v.f2.f0, .int .i64 v.f2.f1, .slice A4 v.f2.f2.length c4, .int .i64 v.f3] 40) = w1 at HS ⊢
  generalize w.heap.size + 1 = g3 at HS ⊢
  generalize w.heap.size = g2 at HS ⊢
  go_cut [5] (fun v5 wc => v5 = .bool z ∧ Aside0 (Hs w wc g2 g3 f v A1 c1 A4 c4))
  case first =>
    obtain ⟨a0_, a1_, a2_, a3_, a4_⟩ := HS.out.cells2
    obtain ⟨d1_, d2_, d3_, d4_, d5_⟩ := HS.out.cells3

    have hz := HZ.out
    unfold zeroB at hz
    clear HZ HBF HRS
    by_cases h0 : v.f2.f0 = 0
    · have h0b : (v.f2.f0 == 0) = true := by simpa using h0
      by_cases h1 : v.f2.f1 = 0
      · have h1b : (v.f2.f1 == 0) = true := by simpa using h1
        rw [h0b, h1b, Bool.true_and, Bool.true_and] at hz
        clear h0 h1
        go_wp2_with fail
        go_meet
        case rel => exact ⟨rfl, HS⟩
      · have h1b : (v.f2.f1 == 0) = false := by simpa using h1
        rw [h0b, h1b] at hz
        obtain rfl : false = z := hz
        clear h0 h1
        go_wp2_with fail
        go_meet
        case rel => exact ⟨rfl, HS⟩
    · have h0b : (v.f2.f0 == 0) = false := by simpa using h0
      rw [h0b] at hz
      obtain rfl : false = z := hz
      clear h0
      go_wp2_with fail
      go_meet
      case rel => exact ⟨rfl, HS⟩
  case rest =>
    clear HS
    obtain ⟨rfl, HS⟩ := hcut
    have hz := HZ.out
    clear HZ
    go_upto_region 2 with fail
    go_cut [6] (fun v6 wc => v6 = .bool b ∧ Aside0 (Hs w wc g2 g3 f v A1 c1 A4 c4))
    case first =>
      obtain ⟨a0_, a1_, a2_, a3_, a4_⟩ := HS.out.cells2
      obtain ⟨d1_, d2_, d3_, d4_, d5_⟩ := HS.out.cells3

      have hb := HBF.out
      unfold formB at hb
      rw [hz] at hb
      clear HRS HBF hz
      obtain ⟨fe, HE⟩ : ∃ x, Aside0 (f.e = x) := ⟨_, ⟨rfl⟩⟩
      cases fe with
      | false =>
        rw [HE.out] at hb a1_
        simp only [Bool.false_eq_true, if_false] at hb
        subst hb
        cases z with
        | true =>
          go_wp2_with fail
          go_meet
          case rel => exact ⟨rfl, HS⟩
        | false =>
          go_wp2_with fail
          go_meet
          case rel => exact ⟨rfl, HS⟩
      | true =>
        rw [HE.out] at hb a1_
        simp only [if_true] at hb
        obtain ⟨mm, HM⟩ : ∃ m, Aside0 (mayB v.f2 = m) := ⟨_, ⟨rfl⟩⟩
        rw [HM.out] at hb
        go_wp2_with fail
        refine (mayT wc v.f2 A4 c4 L4.out (Kd.C_below R4.out HS.out.bl)).mono ?_
        rintro e_ w2 ⟨rfl, hb_⟩
        rw [HM.out]
        have HS2 := Aside0.mk (HS.out.step hb_)
        clear hb_ a0_ a1_ a2_ a3_ a4_ d1_ d2_ d3_ d4_ d5_
        cases mm with
        | false =>
          obtain rfl : false = b := by simpa using hb
          obtain ⟨a0_, a1_, a2_, a3_, a4_⟩ := HS2.out.cells2
          obtain ⟨d1_, d2_, d3_, d4_, d5_⟩ := HS2.out.cells3
          rw [HE.out] at a1_
          go_wp2_with fail
          go_meet
          case rel => exact ⟨rfl, HS2⟩
        | true =>
          rw [Bool.true_and] at hb
          obtain ⟨a0_, a1_, a2_, a3_, a4_⟩ := HS2.out.cells2
          obtain ⟨d1_, d2_, d3_, d4_, d5_⟩ := HS2.out.cells3
          rw [HE.out] at a1_
          obtain ⟨fa, HA⟩ : ∃ x, Aside0 (f.acc = x) := ⟨_, ⟨rfl⟩⟩
          cases fa with
          | true =>
            rw [HA.out] at hb a2_
            obtain rfl : true = b := by simpa using hb
            go_wp2_with fail
            go_meet
            case rel => exact ⟨rfl, HS2⟩
          | false =>
            rw [HA.out, Bool.false_or] at hb
            rw [HA.out] at a2_
            go_wp2_with fail
            refine (usesT w2 v.f2 A4 c4 L4.out (Kd.C_below R4.out HS2.out.bl) HM.out).mono ?_
            rintro e_ w3 ⟨rfl, hb_⟩
            have HS3 := Aside0.mk (HS2.out.step hb_)
            clear hb_ a0_ a1_ a2_ a3_ a4_ d1_ d2_ d3_ d4_ d5_
            obtain ⟨uu, HU⟩ : ∃ u, Aside0 (usesB 16 v.f2 = u) := ⟨_, ⟨rfl⟩⟩
            rw [HU.out] at hb ⊢
            go_wp2_with fail
            go_meet
            case rel => exact ⟨by rw [← hb], HS3⟩
    case rest =>
      clear HS
      obtain ⟨rfl, HS⟩ := hcut
      have hr := HRS.out
      unfold hasB at hr
      rw [HBF.out] at hr
      clear HRS HBF hz
      obtain ⟨a0_, a1_, a2_, a3_, a4_⟩ := HS.out.cells2
      obtain ⟨d1_, d2_, d3_, d4_, d5_⟩ := HS.out.cells3

      by_cases h0 : (v.f1.length : Int) = f.fr
      · have h0b : ((v.f1.length : Int) == f.fr) = true := by simpa using h0
        rw [h0b, Bool.true_and] at hr
        cases b with
        | false =>
          obtain rfl : false = r := by simpa using hr
          have HB := Aside0.mk HS.out.bl
          clear h0
          go_wp2_with fail
          go_ret
          exact ⟨rfl, HB.out⟩
        | true =>
          rw [Bool.true_and] at hr
          have HB := Aside0.mk HS.out.bl
          clear h0
          by_cases h1 : f.least ≤ v.f3
          · have h1b : decide (f.least ≤ v.f3) = true := by simpa using h1
            rw [h1b, Bool.true_and] at hr
            have h1c : decide (v.f3 ≥ f.least) = true := h1b
            clear h1
            go_wp2_with fail
            go_ret
            exact ⟨by rw [← hr]; rfl, HB.out⟩
          · have h1b : decide (f.least ≤ v.f3) = false := by simpa using h1
            rw [h1b, Bool.false_and] at hr
            have h1c : decide (v.f3 ≥ f.least) = false := h1b
            subst hr
            clear h1
            go_wp2_with fail
            go_ret
            exact ⟨rfl, HB.out⟩
      · have h0b : ((v.f1.length : Int) == f.fr) = false := by simpa using h0
        rw [h0b, Bool.false_and] at hr
        subst hr
        have HB := Aside0.mk HS.out.bl
        clear h0
        go_wp2_with fail
        go_ret
        exact ⟨rfl, HB.out⟩
end Go.Proofs.Yteanncfmaomhaaa.Ex
