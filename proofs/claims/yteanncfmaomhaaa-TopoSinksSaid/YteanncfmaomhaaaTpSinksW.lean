/- The statement TopoSinks. -/
import Derived.Test.YteanncfmaomhaaaTpApp
import Derived.Test.YteanncfmaomhaaaTpLwC
import Derived.Test.YteanncfmaomhaaaOpT
namespace Go.Proofs.Yteanncfmaomhaaa.Ex
open Go Go.RowKit Go.Proofs.YteanncfmaomhaaaW.PrintWords Go.Proofs.YteanncfmaomhaaaW.PrintLast Go.Proofs.YteanncfmaomhaaaW.PrintMore Go.Proofs.Yteanncfmaomhaaa.Mono
set_option linter.unusedVariables false
set_option linter.unusedSimpArgs false
/-- A sink of one. -/
def sinkV (f n : Int) : Vx := ⟨10, [f], ⟨0, 0, []⟩, n⟩
def takenB (l : List Vx) (n : Int) : Bool := l.any fun u => (u.f0 == 10) && (u.f3 == n)
theorem sink_vert (l : List Vx) (f n : Int) (h0 : 0 ≤ f) (h1 : f < (l.length : Int)) (hn : 0 ≤ n ∧ n ≤ 7) :
    vertOf l l.length (sinkV f n) (keysGo l []) = if takenB l n = true then 12 else if (vAt l f).f0 = 10 then 5 else 0 := by
  have e1 : ¬ ((sinkV f n).f0 < 1 ∨ 10 < (sinkV f n).f0) := by show ¬ ((10 : Int) < 1 ∨ 10 < 10); omega
  have e2 : (sinkV f n).f1.any (badB l.length) = false := by
    show [f].any (badB l.length) = false
    rw [List.any_cons, List.any_nil, Bool.or_false]
    unfold badB
    rw [decide_eq_false (by omega), decide_eq_false (by omega)]
    rfl
  have e3 : hasB (fmOf (sinkV f n).f0) (sinkV f n) = true := by
    show hasB (fmOf 10) (sinkV f n) = true
    rw [show fmOf 10 = ⟨1, false, false, 0, 7, true⟩ from rfl]
    unfold hasB formB sinkV
    simp [zeroB, hn.1, hn.2]
  have e4 : ((fmOf (sinkV f n).f0).own && decide (((sinkV f n).f0, (sinkV f n).f3) ∈ keysGo l [])) = takenB l n := by
    show ((fmOf 10).own && decide (((10 : Int), n) ∈ keysGo l [])) = takenB l n
    rw [show (fmOf 10).own = true from rfl, Bool.true_and]
    apply Bool.eq_iff_iff.2
    rw [decide_eq_true_eq, mem_keysGo]
    unfold takenB
    rw [List.any_eq_true]
    constructor
    · rintro (h | ⟨u, hu, he⟩)
      · cases h
      · injection he with he1 he2
        exact ⟨u, hu, by simp [he1, he2]⟩
    · rintro ⟨u, hu, he⟩
      simp only [Bool.and_eq_true, beq_iff_eq] at he
      exact .inr ⟨u, hu, by rw [he.1, he.2]⟩
  cases ht : takenB l n with
  | true =>
    rw [vert4 e1 e2 e3 (e4.trans ht), if_pos rfl]
  | false =>
    rw [vert5 e1 e2 e3 (e4.trans ht), if_neg (show ¬ (false = true) by decide)]
    have e5 : (sinkV f n).f1.any (sinkB l) = ((vAt l f).f0 == 10) := by
      show [f].any (sinkB l) = _
      rw [List.any_cons, List.any_nil, Bool.or_false]
      rfl
    rw [e5]
    by_cases h : (vAt l f).f0 = 10
    · rw [if_pos (by simpa using h), if_pos h]
    · rw [if_neg (by simpa using h), if_neg h, if_neg (fun hh => absurd hh.1 (show ¬ ((10 : Int) = 9) by decide))]
/-- The frame's variable. -/
structure To (w0 w : World) (gt : Nat) (l : List Vx) (A0 : Option Addr) (c0 : Nat) (p : Int) : Prop where
  b1 : w.heap[gt]? = some (.cells #[.slice A0 l.length c0, .int .i64 p] 24 (0, 0))
  bl : Below w0.heap.size w0 w
theorem To.step {w0 w w2 : World} {gt : Nat} {l : List Vx} {A0 : Option Addr} {c0 : Nat} {p : Int} (h : To w0 w gt l A0 c0 p) (hb : Below w.heap.size w w2) : To w0 w2 gt l A0 c0 p := ⟨blk_below h.b1 hb, below_step h.bl hb⟩
structure Two (x y : Prop) : Prop where
  b1 : x
  b2 : y
theorem step_runT {P : Program} {ops : Array Oper} {o : Oper} {a : Act} {Q : Exit → Act → World → Prop} {Kc : Act → World → Prop} {W w1 : World} {N : Option Tmp} {v1 va xv : Value} (hw : Region.wanted o (yielded ops a.tmps) = true) (s x : Operand) (t : TypeId) (ho : o.op = .call { callee := .builtin .append, args := #[s, x], argTypes := #[t, t] }) (hN : o.dst = N)
    (hs : a.eval s = va) (hx : a.eval x = xv) (hr : (Builtin.append_ #[t, t] o.type #[va, xv]).run P W = .ok v1 w1) (h : Kc (a.put N v1) w1) : if Region.wanted o (yielded ops a.tmps) = true then Oper.wp P o a W Kc Q else Kc (a.put N undef) W :=
  value_ hw hN (append_exec s x t ho hs hx hr) h
theorem taken_take (l : List Vx) (n : Int) (k : Nat) (hk : k < l.length) : takenB (l.take (k + 1)) n = (takenB (l.take k) n || (((vAt l (k : Int)).f0 == 10) && ((vAt l (k : Int)).f3 == n))) := by
  unfold takenB
  rw [List.take_succ_eq_append_getElem hk, List.any_append]
  have : vAt l (k : Int) = l[k] := by
    unfold vAt rd_T40
    rw [Int.toNat_natCast, List.getD_eq_getElem?_getD, List.getElem?_eq_getElem hk]
    rfl
  rw [this]
  simp
set_option maxHeartbeats 8000000 in
set_option maxRecDepth 100000 in
theorem sinks_ok (l : List Vx) (p : Int) (fr nn : Int) (A0 : Option Addr) (c0 : Nat) (w : World) (hC : Kd.C k40 w A0 l.length l) (hc : l.length ≤ c0) (hv : ∀ u ∈ l, vxOk u) (hl : l.length ≤ 1759218604441) (hfr : 0 ≤ fr ∧ fr ≤ 255) (hnn : 0 ≤ nn ∧ nn ≤ 255) :
    Calls Try.prog 6 #[.agg #[.slice A0 l.length c0, .int .i64 p], .int .u8 fr, .int .u8 nn] w fun e w' => e = .returned (.bool true) ∧ Below w.heap.size w w' := by
  have HC := Aside0.mk hC
  have HC0 := Aside0.mk hc
  have HV := Aside0.mk hv
  have HFR := Aside0.mk hfr
  have HNN := Aside0.mk hnn
  have HOV : Aside0 (okV l = true) := ⟨okV_of (fun u hu => (hv u hu).2.2.2)⟩
  obtain ⟨bs, hbs⟩ := small_ev l p (fun v h => (hv v h).2.2.1) hl
  obtain ⟨ks, hks⟩ := Ev.rounds hbs
  have HKS := Aside0.mk hks
  clear hC hc hv hl hbs hks hfr hnn
  go_enter Try.func6, Try.ntmps6
  go_upto_region 1 with fail
  have HS : Aside0 (To w (w.alloc (.cells #[.slice A0 l.length c0, .int .i64 p] 24)) w.heap.size l A0 c0 p) := ⟨⟨blk_new _ _, below_alloc (Below.refl _ _) _⟩⟩
  generalize w.alloc (.cells #[.slice A0 l.length c0, .int .i64 p] 24) = w1 at HS ⊢
  generalize w.heap.size = gt at HS ⊢
  go_wp2_with fail
  obtain ⟨k9, hk9⟩ := Ev.rounds shown_ev
  refine (tidemilllaw05_shown.calls k9 true _ hk9).mono ?_
  rintro e w2 ⟨rfl, hb_⟩
  replace HS := Aside0.mk (HS.out.step hb_)
  clear hb_ hk9
  go_upto_region 2 with fail
  go_cut [32] (fun v32 wc => ∃ q, v32 = .bool q ∧ Aside0 (q = false → 1 ≤ l.length ∧ l.length < 24) ∧ Aside0 (To w wc gt l A0 c0 p))
  case first =>
    have a0_ := (blk_cell HS.out.b1 0).trans (rfl : _ = some (.slice A0 l.length c0 : Value))
    have a1_ := (blk_cell HS.out.b1 1).trans (rfl : _ = some (.int .i64 p : Value))

    go_wp2_with fail
    refine (tidemilllaw05_small.calls ks A0 c0 l p bs _ (Kd.C_below HC.out HS.out.bl) HC0.out HKS.out).mono ?_
    rintro e w3 ⟨rfl, hb_⟩
    replace HS := Aside0.mk (HS.out.step hb_)
    clear hb_ a0_ a1_
    cases bs with
    | false =>
      have a0_ := (blk_cell HS.out.b1 0).trans (rfl : _ = some (.slice A0 l.length c0 : Value))
      have a1_ := (blk_cell HS.out.b1 1).trans (rfl : _ = some (.int .i64 p : Value))

      go_wp2_with fail
      go_meet
      case rel => exact ⟨true, rfl, ⟨fun h => by cases h⟩, HS⟩
    | true =>
      have a0_ := (blk_cell HS.out.b1 0).trans (rfl : _ = some (.slice A0 l.length c0 : Value))
      have a1_ := (blk_cell HS.out.b1 1).trans (rfl : _ = some (.int .i64 p : Value))

      by_cases h2 : l.length = 0
      · have h2b : ((l.length : Int) == 0) = true := beq_iff_eq.2 (by omega)
        have h2c : (l.length == 0) = true := beq_iff_eq.2 h2
        clear h2
        go_wp2_with fail
        go_meet
        case rel => exact ⟨true, rfl, ⟨fun h => by cases h⟩, HS⟩
      have h2b : ((l.length : Int) == 0) = false := beq_eq_false_iff_ne.2 (by omega)
      have h2c : (l.length == 0) = false := beq_eq_false_iff_ne.2 h2
      obtain ⟨q, HQ⟩ : ∃ q, Aside0 (decide ((l.length : Int) ≥ 24) = q) := ⟨_, ⟨rfl⟩⟩
      have hq := HQ.out
      have HQ2 : Aside0 (q = false → 1 ≤ l.length ∧ l.length < 24) := ⟨fun h => by rw [h] at hq; simp at hq; omega⟩
      clear h2
      go_wp2_with fail
      go_meet
      case rel => exact ⟨q, by first | rfl | (congr 1), HQ2, HS⟩
  case rest =>
    clear HS
    obtain ⟨q, rfl, HQ, HS⟩ := hcut
    cases q with
    | true =>
      have HB := Aside0.mk HS.out.bl
      go_wp2_with fail
      go_ret
      exact ⟨rfl, HB.out⟩
    | false =>
      have hl2 := (HQ.out rfl).1
      have hl24 := (HQ.out rfl).2
      go_upto_region 4 with fail
      obtain ⟨⟨i, e0⟩, HCK⟩ : ∃ q, Aside0 (checkOf l p = q) := ⟨_, ⟨rfl⟩⟩
      have HCO := Aside0.mk (check_ok A0 c0 l p wc (Kd.C_below HC.out HS.out.bl) HOV.out)
      rw [HCK.out] at HCO
      simp only at HCO
      have a0_ := (blk_cell HS.out.b1 0).trans (rfl : _ = some (.slice A0 l.length c0 : Value))
      have a1_ := (blk_cell HS.out.b1 1).trans (rfl : _ = some (.int .i64 p : Value))

      go_wp2_with fail
      refine HCO.out.mono ?_
      rintro e w3 ⟨rfl, hb_⟩
      replace HS := Aside0.mk (HS.out.step hb_)
      clear hb_ a0_ a1_ HCO HQ
      by_cases he : e0 = 0
      · have heb : (e0 != 0) = false := by simpa using he
        have HE0 := Aside0.mk he
        clear he
        have a0_ := (blk_cell HS.out.b1 0).trans (rfl : _ = some (.slice A0 l.length c0 : Value))
        have a1_ := (blk_cell HS.out.b1 1).trans (rfl : _ = some (.int .i64 p : Value))

        obtain ⟨F, HF⟩ : ∃ F : Nat, Aside0 ((F : Int) = fr % (l.length : Int)) := ⟨(fr % (l.length : Int)).toNat, ⟨by have := Int.emod_nonneg fr (show (l.length : Int) ≠ 0 by omega); omega⟩⟩
        obtain ⟨N, HN⟩ : ∃ N : Nat, Aside0 ((N : Int) = nn % 8) := ⟨(nn % 8).toNat, ⟨by omega⟩⟩
        have hF : F < l.length := by have h1 := Int.emod_lt_of_pos fr (show (0 : Int) < (l.length : Int) by omega); have := HF.out; omega
        have hN : N < 8 := by have := HN.out; omega
        have hw0 : wrap64 fr = fr := by have := HFR.out; unfold wrap64; omega
        have hw1 : fr.tmod (l.length : Int) = (F : Int) := by rw [HF.out, Int.tmod_eq_emod_of_nonneg HFR.out.1]
        have hw2 : wrap64 (nn.tmod 8) = (N : Int) := by rw [HN.out, Int.tmod_eq_emod_of_nonneg HNN.out.1]; have := HNN.out; unfold wrap64; omega
        have hw3 : ((l.length : Int) == 0) = false := beq_eq_false_iff_ne.2 (by omega)
        have hw4 : (l.length == 0) = false := beq_eq_false_iff_ne.2 (by omega)
        have hw5 : wrap64 (F : Int) = (F : Int) := by unfold wrap64; omega
        go_upto_region 9 with fail
        clear a0_ a1_ hw0 hw1 hw2 hw3 hw4 hw5
        have hs_ : (w3.alloc (.cells #[.int .i64 (F : Int)] 3)).heap.size = w3.heap.size + 1 := by simp
        have hb1_ := below_alloc (Below.refl w3.heap.size w3) (.cells #[.int .i64 (F : Int)] 3)
        have HV5 := Aside0.mk (blk_new w3 (.cells #[.int .i64 (F : Int)] 3))
        generalize w3.alloc (.cells #[.int .i64 (F : Int)] 3) = w4 at hs_ hb1_ HV5 ⊢
        rw [← hs_]
        generalize w3.heap.size = g5 at HV5 hs_ ⊢
        clear hs_
        replace HS : Aside0 (To w w4 gt l A0 c0 p) := ⟨⟨by have := HS.out.b1; exact blk_below this hb1_, below_step HS.out.bl hb1_⟩⟩
        clear hb1_
        have hb_ := below_alloc (Below.refl w4.heap.size w4) (.cells #[.int .i64 10, .slice (some ⟨g5, 0, none⟩) 1 1, .int .i64 0, .int .i64 0, .slice none 0 0, .int .i64 (N : Int)] 40)
        have HV6 := Aside0.mk (blk_new w4 (.cells #[.int .i64 10, .slice (some ⟨g5, 0, none⟩) 1 1, .int .i64 0, .int .i64 0, .slice none 0 0, .int .i64 (N : Int)] 40))
        generalize w4.alloc (.cells #[.int .i64 10, .slice (some ⟨g5, 0, none⟩) 1 1, .int .i64 0, .int .i64 0, .slice none 0 0, .int .i64 (N : Int)] 40) = w5 at hb_ HV6 ⊢
        replace HV5 := Aside0.mk (blk_below HV5.out hb_)
        replace HS := Aside0.mk (HS.out.step hb_)
        obtain ⟨g6, HG6⟩ : ∃ g, Aside0 (w4.heap.size = g) := ⟨_, ⟨rfl⟩⟩
        rw [HG6.out] at HV6 ⊢
        clear hb_
        go_wp2_with fail
        go_loopw [12, 13] (fun v12 v13 wr => ∃ k : Nat, k ≤ l.length ∧ v12 = .bool (takenB (l.take k) (N : Int)) ∧ v13 = .int .i64 (k : Int) ∧ Aside0 (Below w5.heap.size w5 wr)) (fun _ v13 _ => l.length - (intOf v13).toNat)
        case atStart => exact ⟨0, by omega, rfl, rfl, ⟨Below.refl _ _⟩⟩
        case round =>
          obtain ⟨k, hk, rfl, rfl, HW⟩ := hrel
          have HSK := Aside0.mk (HS.out.step HW.out)
          have a0_ := (blk_cell HSK.out.b1 0).trans (rfl : _ = some (.slice A0 l.length c0 : Value))
          have a1_ := (blk_cell HSK.out.b1 1).trans (rfl : _ = some (.int .i64 p : Value))

          by_cases hlt : k < l.length
          · have h1 : decide ((k : Int) < (l.length : Int)) = true := by simp; omega
            have h1b : decide (k < l.length) = true := by simp; omega
            obtain ⟨ad, _, _, _, _, hA, x0, _, _, _, _, x5, _⟩ := at_T40 (Kd.C_below HC.out HSK.out.bl) (k : Int) (by omega) (by omega)
            have HTK := Aside0.mk (taken_take l (N : Int) k hlt)
            have hkl : (k : Int) < (l.length : Int) := by omega
            change wr.cell? _ = some (.int .i64 (vAt l (k : Int)).f0) at x0
            change wr.cell? _ = some (.int .i64 (vAt l (k : Int)).f3) at x5
            obtain ⟨u, HU⟩ : ∃ u, Aside0 (vAt l (k : Int) = u) := ⟨_, ⟨rfl⟩⟩
            rw [HU.out] at x0 x5 HTK
            simp only [Int.toNat_natCast] at x0 x5
            have X0 := Aside0.mk x0
            have X5 := Aside0.mk x5
            obtain ⟨b, HBV⟩ : ∃ b, Aside0 (takenB (l.take k) (N : Int) = b) := ⟨_, ⟨rfl⟩⟩
            rw [HBV.out] at HTK ⊢
            clear x0 x5
            subst hA
            go_upto_region 13 with fail
            clear a0_ a1_
            cases b with
            | true =>
              refine start_ (n := 22) (S := fun w' => Below wr.heap.size wr w') (ds := []) #[false, false, false, false, false, false, false, false, false, false, false, false, false, false, false, false, false, false, false, false, false, false] (by kernel_rfl) rfl rfl (below_drew (Below.refl _ _)) (fun hHeld => ?_)
              refine pure_ (i := 0) (N := some 61) (v := ?_) (a' := ?_) #[true, false, false, false, false, false, false, false, false, false, false, false, false, false, false, false, false, false, false, false, false, false] rfl rfl (by kernel_rfl) (fun _ _ _ h => h) (Or.inl ⟨by rfl, ?_⟩) ?_ ?_
              rotate_left
              · intro w'
                go_simp
                with_reducible rfl
              rotate_left
              · simp only [Act.put, List.setIfInBounds_toArray, List.set_cons_zero, List.set_cons_succ, i64_w, i32_w]
                rfl
              refine pure_ (i := 1) (N := some 62) (v := ?_) (a' := ?_) #[true, true, false, false, false, false, false, false, false, false, false, false, false, false, false, false, false, false, false, false, false, false] rfl rfl (by kernel_rfl) (fun _ _ _ h => h) (Or.inl ⟨by rfl, ?_⟩) ?_ ?_
              rotate_left
              · intro w'
                go_simp
                with_reducible rfl
              rotate_left
              · simp only [Act.put, List.setIfInBounds_toArray, List.set_cons_zero, List.set_cons_succ, i64_w, i32_w]
                rfl
              refine pure_ (i := 2) (N := some 63) (v := undef) (a' := ?_) #[true, true, true, false, false, false, false, false, false, false, false, false, false, false, false, false, false, false, false, false, false, false] rfl rfl (by kernel_rfl) (fun _ _ _ h => h) (Or.inr ⟨by rfl, rfl⟩) ?_ ?_
              rotate_left
              · simp only [Act.put, List.setIfInBounds_toArray, List.set_cons_zero, List.set_cons_succ, i64_w, i32_w]
                rfl
              refine pure_ (i := 3) (N := some 64) (v := undef) (a' := ?_) #[true, true, true, true, false, false, false, false, false, false, false, false, false, false, false, false, false, false, false, false, false, false] rfl rfl (by kernel_rfl) (fun _ _ _ h => h) (Or.inr ⟨by rfl, rfl⟩) ?_ ?_
              rotate_left
              · simp only [Act.put, List.setIfInBounds_toArray, List.set_cons_zero, List.set_cons_succ, i64_w, i32_w]
                rfl
              refine pure_ (i := 4) (N := some 65) (v := undef) (a' := ?_) #[true, true, true, true, true, false, false, false, false, false, false, false, false, false, false, false, false, false, false, false, false, false] rfl rfl (by kernel_rfl) (fun _ _ _ h => h) (Or.inr ⟨by rfl, rfl⟩) ?_ ?_
              rotate_left
              · simp only [Act.put, List.setIfInBounds_toArray, List.set_cons_zero, List.set_cons_succ, i64_w, i32_w]
                rfl
              refine pure_ (i := 5) (N := some 66) (v := undef) (a' := ?_) #[true, true, true, true, true, true, false, false, false, false, false, false, false, false, false, false, false, false, false, false, false, false] rfl rfl (by kernel_rfl) (fun _ _ _ h => h) (Or.inr ⟨by rfl, rfl⟩) ?_ ?_
              rotate_left
              · simp only [Act.put, List.setIfInBounds_toArray, List.set_cons_zero, List.set_cons_succ, i64_w, i32_w]
                rfl
              refine pure_ (i := 6) (N := some 67) (v := undef) (a' := ?_) #[true, true, true, true, true, true, true, false, false, false, false, false, false, false, false, false, false, false, false, false, false, false] rfl rfl (by kernel_rfl) (fun _ _ _ h => h) (Or.inr ⟨by rfl, rfl⟩) ?_ ?_
              rotate_left
              · simp only [Act.put, List.setIfInBounds_toArray, List.set_cons_zero, List.set_cons_succ, i64_w, i32_w]
                rfl
              refine pure_ (i := 7) (N := some 68) (v := undef) (a' := ?_) #[true, true, true, true, true, true, true, true, false, false, false, false, false, false, false, false, false, false, false, false, false, false] rfl rfl (by kernel_rfl) (fun _ _ _ h => h) (Or.inr ⟨by rfl, rfl⟩) ?_ ?_
              rotate_left
              · simp only [Act.put, List.setIfInBounds_toArray, List.set_cons_zero, List.set_cons_succ, i64_w, i32_w]
                rfl
              refine pure_ (i := 8) (N := some 69) (v := undef) (a' := ?_) #[true, true, true, true, true, true, true, true, true, false, false, false, false, false, false, false, false, false, false, false, false, false] rfl rfl (by kernel_rfl) (fun _ _ _ h => h) (Or.inr ⟨by rfl, rfl⟩) ?_ ?_
              rotate_left
              · simp only [Act.put, List.setIfInBounds_toArray, List.set_cons_zero, List.set_cons_succ, i64_w, i32_w]
                rfl
              refine pure_ (i := 9) (N := some 70) (v := undef) (a' := ?_) #[true, true, true, true, true, true, true, true, true, true, false, false, false, false, false, false, false, false, false, false, false, false] rfl rfl (by kernel_rfl) (fun _ _ _ h => h) (Or.inr ⟨by rfl, rfl⟩) ?_ ?_
              rotate_left
              · simp only [Act.put, List.setIfInBounds_toArray, List.set_cons_zero, List.set_cons_succ, i64_w, i32_w]
                rfl
              refine pure_ (i := 10) (N := some 71) (v := undef) (a' := ?_) #[true, true, true, true, true, true, true, true, true, true, true, false, false, false, false, false, false, false, false, false, false, false] rfl rfl (by kernel_rfl) (fun _ _ _ h => h) (Or.inr ⟨by rfl, rfl⟩) ?_ ?_
              rotate_left
              · simp only [Act.put, List.setIfInBounds_toArray, List.set_cons_zero, List.set_cons_succ, i64_w, i32_w]
                rfl
              refine pure_ (i := 11) (N := some 72) (v := undef) (a' := ?_) #[true, true, true, true, true, true, true, true, true, true, true, true, false, false, false, false, false, false, false, false, false, false] rfl rfl (by kernel_rfl) (fun _ _ _ h => h) (Or.inr ⟨by rfl, rfl⟩) ?_ ?_
              rotate_left
              · simp only [Act.put, List.setIfInBounds_toArray, List.set_cons_zero, List.set_cons_succ, i64_w, i32_w]
                rfl
              refine pure_ (i := 12) (N := some 73) (v := undef) (a' := ?_) #[true, true, true, true, true, true, true, true, true, true, true, true, true, false, false, false, false, false, false, false, false, false] rfl rfl (by kernel_rfl) (fun _ _ _ h => h) (Or.inr ⟨by rfl, rfl⟩) ?_ ?_
              rotate_left
              · simp only [Act.put, List.setIfInBounds_toArray, List.set_cons_zero, List.set_cons_succ, i64_w, i32_w]
                rfl
              refine pure_ (i := 13) (N := some 74) (v := undef) (a' := ?_) #[true, true, true, true, true, true, true, true, true, true, true, true, true, true, false, false, false, false, false, false, false, false] rfl rfl (by kernel_rfl) (fun _ _ _ h => h) (Or.inr ⟨by rfl, rfl⟩) ?_ ?_
              rotate_left
              · simp only [Act.put, List.setIfInBounds_toArray, List.set_cons_zero, List.set_cons_succ, i64_w, i32_w]
                rfl
              refine pure_ (i := 14) (N := some 75) (v := undef) (a' := ?_) #[true, true, true, true, true, true, true, true, true, true, true, true, true, true, true, false, false, false, false, false, false, false] rfl rfl (by kernel_rfl) (fun _ _ _ h => h) (Or.inr ⟨by rfl, rfl⟩) ?_ ?_
              rotate_left
              · simp only [Act.put, List.setIfInBounds_toArray, List.set_cons_zero, List.set_cons_succ, i64_w, i32_w]
                rfl
              refine pure_ (i := 15) (N := some 76) (v := undef) (a' := ?_) #[true, true, true, true, true, true, true, true, true, true, true, true, true, true, true, true, false, false, false, false, false, false] rfl rfl (by kernel_rfl) (fun _ _ _ h => h) (Or.inr ⟨by rfl, rfl⟩) ?_ ?_
              rotate_left
              · simp only [Act.put, List.setIfInBounds_toArray, List.set_cons_zero, List.set_cons_succ, i64_w, i32_w]
                rfl
              refine pure_ (i := 16) (N := some 77) (v := undef) (a' := ?_) #[true, true, true, true, true, true, true, true, true, true, true, true, true, true, true, true, true, false, false, false, false, false] rfl rfl (by kernel_rfl) (fun _ _ _ h => h) (Or.inr ⟨by rfl, rfl⟩) ?_ ?_
              rotate_left
              · simp only [Act.put, List.setIfInBounds_toArray, List.set_cons_zero, List.set_cons_succ, i64_w, i32_w]
                rfl
              refine pure_ (i := 17) (N := some 78) (v := undef) (a' := ?_) #[true, true, true, true, true, true, true, true, true, true, true, true, true, true, true, true, true, true, false, false, false, false] rfl rfl (by kernel_rfl) (fun _ _ _ h => h) (Or.inr ⟨by rfl, rfl⟩) ?_ ?_
              rotate_left
              · simp only [Act.put, List.setIfInBounds_toArray, List.set_cons_zero, List.set_cons_succ, i64_w, i32_w]
                rfl
              refine pure_ (i := 18) (N := some 79) (v := undef) (a' := ?_) #[true, true, true, true, true, true, true, true, true, true, true, true, true, true, true, true, true, true, true, false, false, false] rfl rfl (by kernel_rfl) (fun _ _ _ h => h) (Or.inr ⟨by rfl, rfl⟩) ?_ ?_
              rotate_left
              · simp only [Act.put, List.setIfInBounds_toArray, List.set_cons_zero, List.set_cons_succ, i64_w, i32_w]
                rfl
              refine pure_ (i := 19) (N := some 80) (v := undef) (a' := ?_) #[true, true, true, true, true, true, true, true, true, true, true, true, true, true, true, true, true, true, true, true, false, false] rfl rfl (by kernel_rfl) (fun _ _ _ h => h) (Or.inr ⟨by rfl, rfl⟩) ?_ ?_
              rotate_left
              · simp only [Act.put, List.setIfInBounds_toArray, List.set_cons_zero, List.set_cons_succ, i64_w, i32_w]
                rfl
              refine pure_ (i := 20) (N := some 81) (v := ?_) (a' := ?_) #[true, true, true, true, true, true, true, true, true, true, true, true, true, true, true, true, true, true, true, true, true, false] rfl rfl (by kernel_rfl) (fun _ _ _ h => h) (Or.inl ⟨by rfl, ?_⟩) ?_ ?_
              rotate_left
              · intro w'
                go_simp
                with_reducible rfl
              rotate_left
              · simp only [Act.put, List.setIfInBounds_toArray, List.set_cons_zero, List.set_cons_succ, i64_w, i32_w]
                rfl
              refine pure_ (i := 21) (N := some 12) (v := ?_) (a' := ?_) #[true, true, true, true, true, true, true, true, true, true, true, true, true, true, true, true, true, true, true, true, true, true] rfl rfl (by kernel_rfl) (fun _ _ _ h => h) (Or.inl ⟨by rfl, ?_⟩) ?_ ?_
              rotate_left
              · intro w'
                go_simp
                with_reducible rfl
              rotate_left
              · simp only [Act.put, List.setIfInBounds_toArray, List.set_cons_zero, List.set_cons_succ, i64_w, i32_w]
                rfl
              refine done_ (by kernel_rfl) ?_

              replace HW := Aside0.mk (below_drew HW.out)
              go_wp2_with fail
              go_roundw
              case rel => exact ⟨k + 1, by omega, by rw [HTK.out]; rfl, by go_num, HW⟩
              case measure => simp [intOf]; omega
            | false =>
              rw [Bool.false_or] at HTK
              by_cases h10 : u.f0 = 10
              · have h10b : (u.f0 == 10) = true := by simpa using h10
                rw [h10b, Bool.true_and] at HTK
                clear h10
                refine start_ (n := 22) (S := fun w' => Below wr.heap.size wr w') (ds := []) #[false, false, false, false, false, false, false, false, false, false, false, false, false, false, false, false, false, false, false, false, false, false] (by kernel_rfl) rfl rfl (below_drew (Below.refl _ _)) (fun hHeld => ?_)
                refine pure_ (i := 0) (N := some 61) (v := ?_) (a' := ?_) #[true, false, false, false, false, false, false, false, false, false, false, false, false, false, false, false, false, false, false, false, false, false] rfl rfl (by kernel_rfl) (fun _ _ _ h => h) (Or.inl ⟨by rfl, ?_⟩) ?_ ?_
                rotate_left
                · intro w'
                  go_simp
                  with_reducible rfl
                rotate_left
                · simp only [Act.put, List.setIfInBounds_toArray, List.set_cons_zero, List.set_cons_succ, i64_w, i32_w]
                  rfl
                refine pure_ (i := 1) (N := some 62) (v := ?_) (a' := ?_) #[true, true, false, false, false, false, false, false, false, false, false, false, false, false, false, false, false, false, false, false, false, false] rfl rfl (by kernel_rfl) (fun _ _ _ h => h) (Or.inl ⟨by rfl, ?_⟩) ?_ ?_
                rotate_left
                · intro w'
                  go_simp
                  with_reducible rfl
                rotate_left
                · simp only [Act.put, List.setIfInBounds_toArray, List.set_cons_zero, List.set_cons_succ, i64_w, i32_w]
                  rfl
                refine pure_ (i := 2) (N := some 63) (v := ?_) (a' := ?_) #[true, true, true, false, false, false, false, false, false, false, false, false, false, false, false, false, false, false, false, false, false, false] rfl rfl (by kernel_rfl) (fun _ _ _ h => h) (Or.inl ⟨by rfl, ?_⟩) ?_ ?_
                rotate_left
                · intro w'
                  go_simp
                  with_reducible rfl
                rotate_left
                · simp only [Act.put, List.setIfInBounds_toArray, List.set_cons_zero, List.set_cons_succ, i64_w, i32_w]
                  rfl
                refine pure_ (i := 4) (N := some 65) (v := ?_) (a' := ?_) #[true, true, true, false, true, false, false, false, false, false, false, false, false, false, false, false, false, false, false, false, false, false] rfl rfl (by kernel_rfl) (fun _ _ _ h => h) (Or.inl ⟨by rfl, ?_⟩) ?_ ?_
                rotate_left
                · intro w'
                  go_simp
                  with_reducible rfl
                rotate_left
                · simp only [Act.put, List.setIfInBounds_toArray, List.set_cons_zero, List.set_cons_succ, i64_w, i32_w]
                  rfl
                refine take_ (i := 3) (N := some 64) (v := ?_) (a' := ?_) #[true, true, true, true, true, false, false, false, false, false, false, false, false, false, false, false, false, false, false, false, false, false] rfl rfl (by kernel_rfl) (fun _ _ _ h => h) (Or.inl ⟨by rfl, ?_⟩) hHeld ?_ ?_
                rotate_left
                · intro w' hS
                  have y0_ := (blk_cell (blk_below HSK.out.b1 hS) 0).trans (rfl : _ = some (.slice (some ad) l.length c0 : Value))
                  go_simp
                  with_reducible rfl
                rotate_left
                · simp only [Act.put, List.setIfInBounds_toArray, List.set_cons_zero, List.set_cons_succ, i64_w, i32_w]
                  rfl
                refine pure_ (i := 5) (N := some 66) (v := ?_) (a' := ?_) #[true, true, true, true, true, true, false, false, false, false, false, false, false, false, false, false, false, false, false, false, false, false] rfl rfl (by kernel_rfl) (fun _ _ _ h => h) (Or.inl ⟨by rfl, ?_⟩) ?_ ?_
                rotate_left
                · intro w'
                  go_simp
                  with_reducible rfl
                rotate_left
                · simp only [Act.put, List.setIfInBounds_toArray, List.set_cons_zero, List.set_cons_succ, i64_w, i32_w]
                  rfl
                refine pure_ (i := 6) (N := some 67) (v := ?_) (a' := ?_) #[true, true, true, true, true, true, true, false, false, false, false, false, false, false, false, false, false, false, false, false, false, false] rfl rfl (by kernel_rfl) (fun _ _ _ h => h) (Or.inl ⟨by rfl, ?_⟩) ?_ ?_
                rotate_left
                · intro w'
                  go_simp
                  with_reducible rfl
                rotate_left
                · simp only [Act.put, List.setIfInBounds_toArray, List.set_cons_zero, List.set_cons_succ, i64_w, i32_w]
                  rfl
                refine take_ (i := 7) (N := some 68) (v := ?_) (a' := ?_) #[true, true, true, true, true, true, true, true, false, false, false, false, false, false, false, false, false, false, false, false, false, false] rfl rfl (by kernel_rfl) (fun _ _ _ h => h) (Or.inl ⟨by rfl, ?_⟩) hHeld ?_ ?_
                rotate_left
                · intro w' hS
                  have y0_ := pw_cell_below hS X0.out
                  go_simp
                  with_reducible rfl
                rotate_left
                · simp only [Act.put, List.setIfInBounds_toArray, List.set_cons_zero, List.set_cons_succ, i64_w, i32_w]
                  rfl
                refine pure_ (i := 8) (N := some 69) (v := ?_) (a' := ?_) #[true, true, true, true, true, true, true, true, true, false, false, false, false, false, false, false, false, false, false, false, false, false] rfl rfl (by kernel_rfl) (fun _ _ _ h => h) (Or.inl ⟨by rfl, ?_⟩) ?_ ?_
                rotate_left
                · intro w'
                  go_simp
                  with_reducible rfl
                rotate_left
                · simp only [Act.put, List.setIfInBounds_toArray, List.set_cons_zero, List.set_cons_succ, i64_w, i32_w]
                  rfl
                refine pure_ (i := 9) (N := some 70) (v := ?_) (a' := ?_) #[true, true, true, true, true, true, true, true, true, true, false, false, false, false, false, false, false, false, false, false, false, false] rfl rfl (by kernel_rfl) (fun _ _ _ h => h) (Or.inl ⟨by rfl, ?_⟩) ?_ ?_
                rotate_left
                · intro w'
                  go_simp
                  with_reducible rfl
                rotate_left
                · simp only [Act.put, List.setIfInBounds_toArray, List.set_cons_zero, List.set_cons_succ, i64_w, i32_w]
                  rfl
                refine pure_ (i := 10) (N := some 71) (v := ?_) (a' := ?_) #[true, true, true, true, true, true, true, true, true, true, true, false, false, false, false, false, false, false, false, false, false, false] rfl rfl (by kernel_rfl) (fun _ _ _ h => h) (Or.inl ⟨by rfl, ?_⟩) ?_ ?_
                rotate_left
                · intro w'
                  go_simp
                  with_reducible rfl
                rotate_left
                · simp only [Act.put, List.setIfInBounds_toArray, List.set_cons_zero, List.set_cons_succ, i64_w, i32_w]
                  rfl
                refine pure_ (i := 12) (N := some 73) (v := ?_) (a' := ?_) #[true, true, true, true, true, true, true, true, true, true, true, false, true, false, false, false, false, false, false, false, false, false] rfl rfl (by kernel_rfl) (fun _ _ _ h => h) (Or.inl ⟨by rfl, ?_⟩) ?_ ?_
                rotate_left
                · intro w'
                  go_simp
                  with_reducible rfl
                rotate_left
                · simp only [Act.put, List.setIfInBounds_toArray, List.set_cons_zero, List.set_cons_succ, i64_w, i32_w]
                  rfl
                refine pure_ (i := 16) (N := some 77) (v := ?_) (a' := ?_) #[true, true, true, true, true, true, true, true, true, true, true, false, true, false, false, false, true, false, false, false, false, false] rfl rfl (by kernel_rfl) (fun _ _ _ h => h) (Or.inl ⟨by rfl, ?_⟩) ?_ ?_
                rotate_left
                · intro w'
                  go_simp
                  with_reducible rfl
                rotate_left
                · simp only [Act.put, List.setIfInBounds_toArray, List.set_cons_zero, List.set_cons_succ, i64_w, i32_w]
                  rfl
                refine take_ (i := 11) (N := some 72) (v := ?_) (a' := ?_) #[true, true, true, true, true, true, true, true, true, true, true, true, true, false, false, false, true, false, false, false, false, false] rfl rfl (by kernel_rfl) (fun _ _ _ h => h) (Or.inl ⟨by rfl, ?_⟩) hHeld ?_ ?_
                rotate_left
                · intro w' hS
                  have y0_ := (blk_cell (blk_below HSK.out.b1 hS) 0).trans (rfl : _ = some (.slice (some ad) l.length c0 : Value))
                  go_simp
                  with_reducible rfl
                rotate_left
                · simp only [Act.put, List.setIfInBounds_toArray, List.set_cons_zero, List.set_cons_succ, i64_w, i32_w]
                  rfl
                refine pure_ (i := 13) (N := some 74) (v := ?_) (a' := ?_) #[true, true, true, true, true, true, true, true, true, true, true, true, true, true, false, false, true, false, false, false, false, false] rfl rfl (by kernel_rfl) (fun _ _ _ h => h) (Or.inl ⟨by rfl, ?_⟩) ?_ ?_
                rotate_left
                · intro w'
                  go_simp
                  with_reducible rfl
                rotate_left
                · simp only [Act.put, List.setIfInBounds_toArray, List.set_cons_zero, List.set_cons_succ, i64_w, i32_w]
                  rfl
                refine pure_ (i := 14) (N := some 75) (v := ?_) (a' := ?_) #[true, true, true, true, true, true, true, true, true, true, true, true, true, true, true, false, true, false, false, false, false, false] rfl rfl (by kernel_rfl) (fun _ _ _ h => h) (Or.inl ⟨by rfl, ?_⟩) ?_ ?_
                rotate_left
                · intro w'
                  go_simp
                  with_reducible rfl
                rotate_left
                · simp only [Act.put, List.setIfInBounds_toArray, List.set_cons_zero, List.set_cons_succ, i64_w, i32_w]
                  rfl
                refine take_ (i := 15) (N := some 76) (v := ?_) (a' := ?_) #[true, true, true, true, true, true, true, true, true, true, true, true, true, true, true, true, true, false, false, false, false, false] rfl rfl (by kernel_rfl) (fun _ _ _ h => h) (Or.inl ⟨by rfl, ?_⟩) hHeld ?_ ?_
                rotate_left
                · intro w' hS
                  have y0_ := pw_cell_below hS X5.out
                  go_simp
                  with_reducible rfl
                rotate_left
                · simp only [Act.put, List.setIfInBounds_toArray, List.set_cons_zero, List.set_cons_succ, i64_w, i32_w]
                  rfl
                refine take_ (i := 17) (N := some 78) (v := ?_) (a' := ?_) #[true, true, true, true, true, true, true, true, true, true, true, true, true, true, true, true, true, true, false, false, false, false] rfl rfl (by kernel_rfl) (fun _ _ _ h => h) (Or.inl ⟨by rfl, ?_⟩) hHeld ?_ ?_
                rotate_left
                · intro w' hS
                  have y0_ := (blk_cell (blk_below (blk_below HV6.out HW.out) hS) 5).trans (rfl : _ = some (.int .i64 (N : Int) : Value))
                  go_simp
                  with_reducible rfl
                rotate_left
                · simp only [Act.put, List.setIfInBounds_toArray, List.set_cons_zero, List.set_cons_succ, i64_w, i32_w]
                  rfl
                refine pure_ (i := 18) (N := some 79) (v := ?_) (a' := ?_) #[true, true, true, true, true, true, true, true, true, true, true, true, true, true, true, true, true, true, true, false, false, false] rfl rfl (by kernel_rfl) (fun _ _ _ h => h) (Or.inl ⟨by rfl, ?_⟩) ?_ ?_
                rotate_left
                · intro w'
                  go_simp
                  with_reducible rfl
                rotate_left
                · simp only [Act.put, List.setIfInBounds_toArray, List.set_cons_zero, List.set_cons_succ, i64_w, i32_w]
                  rfl
                refine pure_ (i := 19) (N := some 80) (v := ?_) (a' := ?_) #[true, true, true, true, true, true, true, true, true, true, true, true, true, true, true, true, true, true, true, true, false, false] rfl rfl (by kernel_rfl) (fun _ _ _ h => h) (Or.inl ⟨by rfl, ?_⟩) ?_ ?_
                rotate_left
                · intro w'
                  go_simp
                  with_reducible rfl
                rotate_left
                · simp only [Act.put, List.setIfInBounds_toArray, List.set_cons_zero, List.set_cons_succ, i64_w, i32_w]
                  rfl
                refine pure_ (i := 20) (N := some 81) (v := ?_) (a' := ?_) #[true, true, true, true, true, true, true, true, true, true, true, true, true, true, true, true, true, true, true, true, true, false] rfl rfl (by kernel_rfl) (fun _ _ _ h => h) (Or.inl ⟨by rfl, ?_⟩) ?_ ?_
                rotate_left
                · intro w'
                  go_simp
                  with_reducible rfl
                rotate_left
                · simp only [Act.put, List.setIfInBounds_toArray, List.set_cons_zero, List.set_cons_succ, i64_w, i32_w]
                  rfl
                refine pure_ (i := 21) (N := some 12) (v := ?_) (a' := ?_) #[true, true, true, true, true, true, true, true, true, true, true, true, true, true, true, true, true, true, true, true, true, true] rfl rfl (by kernel_rfl) (fun _ _ _ h => h) (Or.inl ⟨by rfl, ?_⟩) ?_ ?_
                rotate_left
                · intro w'
                  go_simp
                  with_reducible rfl
                rotate_left
                · simp only [Act.put, List.setIfInBounds_toArray, List.set_cons_zero, List.set_cons_succ, i64_w, i32_w]
                  rfl
                refine done_ (by kernel_rfl) ?_

                replace HW := Aside0.mk (below_drew HW.out)
                go_wp2_with fail
                go_roundw
                case rel => exact ⟨k + 1, by omega, by rw [HTK.out], by go_num, HW⟩
                case measure => simp [intOf]; omega
              · have h10b : (u.f0 == 10) = false := by simpa using h10
                rw [h10b, Bool.false_and] at HTK
                clear h10
                refine start_ (n := 22) (S := fun w' => Below wr.heap.size wr w') (ds := []) #[false, false, false, false, false, false, false, false, false, false, false, false, false, false, false, false, false, false, false, false, false, false] (by kernel_rfl) rfl rfl (below_drew (Below.refl _ _)) (fun hHeld => ?_)
                refine pure_ (i := 0) (N := some 61) (v := ?_) (a' := ?_) #[true, false, false, false, false, false, false, false, false, false, false, false, false, false, false, false, false, false, false, false, false, false] rfl rfl (by kernel_rfl) (fun _ _ _ h => h) (Or.inl ⟨by rfl, ?_⟩) ?_ ?_
                rotate_left
                · intro w'
                  go_simp
                  with_reducible rfl
                rotate_left
                · simp only [Act.put, List.setIfInBounds_toArray, List.set_cons_zero, List.set_cons_succ, i64_w, i32_w]
                  rfl
                refine pure_ (i := 1) (N := some 62) (v := ?_) (a' := ?_) #[true, true, false, false, false, false, false, false, false, false, false, false, false, false, false, false, false, false, false, false, false, false] rfl rfl (by kernel_rfl) (fun _ _ _ h => h) (Or.inl ⟨by rfl, ?_⟩) ?_ ?_
                rotate_left
                · intro w'
                  go_simp
                  with_reducible rfl
                rotate_left
                · simp only [Act.put, List.setIfInBounds_toArray, List.set_cons_zero, List.set_cons_succ, i64_w, i32_w]
                  rfl
                refine pure_ (i := 2) (N := some 63) (v := ?_) (a' := ?_) #[true, true, true, false, false, false, false, false, false, false, false, false, false, false, false, false, false, false, false, false, false, false] rfl rfl (by kernel_rfl) (fun _ _ _ h => h) (Or.inl ⟨by rfl, ?_⟩) ?_ ?_
                rotate_left
                · intro w'
                  go_simp
                  with_reducible rfl
                rotate_left
                · simp only [Act.put, List.setIfInBounds_toArray, List.set_cons_zero, List.set_cons_succ, i64_w, i32_w]
                  rfl
                refine pure_ (i := 4) (N := some 65) (v := ?_) (a' := ?_) #[true, true, true, false, true, false, false, false, false, false, false, false, false, false, false, false, false, false, false, false, false, false] rfl rfl (by kernel_rfl) (fun _ _ _ h => h) (Or.inl ⟨by rfl, ?_⟩) ?_ ?_
                rotate_left
                · intro w'
                  go_simp
                  with_reducible rfl
                rotate_left
                · simp only [Act.put, List.setIfInBounds_toArray, List.set_cons_zero, List.set_cons_succ, i64_w, i32_w]
                  rfl
                refine take_ (i := 3) (N := some 64) (v := ?_) (a' := ?_) #[true, true, true, true, true, false, false, false, false, false, false, false, false, false, false, false, false, false, false, false, false, false] rfl rfl (by kernel_rfl) (fun _ _ _ h => h) (Or.inl ⟨by rfl, ?_⟩) hHeld ?_ ?_
                rotate_left
                · intro w' hS
                  have y0_ := (blk_cell (blk_below HSK.out.b1 hS) 0).trans (rfl : _ = some (.slice (some ad) l.length c0 : Value))
                  go_simp
                  with_reducible rfl
                rotate_left
                · simp only [Act.put, List.setIfInBounds_toArray, List.set_cons_zero, List.set_cons_succ, i64_w, i32_w]
                  rfl
                refine pure_ (i := 5) (N := some 66) (v := ?_) (a' := ?_) #[true, true, true, true, true, true, false, false, false, false, false, false, false, false, false, false, false, false, false, false, false, false] rfl rfl (by kernel_rfl) (fun _ _ _ h => h) (Or.inl ⟨by rfl, ?_⟩) ?_ ?_
                rotate_left
                · intro w'
                  go_simp
                  with_reducible rfl
                rotate_left
                · simp only [Act.put, List.setIfInBounds_toArray, List.set_cons_zero, List.set_cons_succ, i64_w, i32_w]
                  rfl
                refine pure_ (i := 6) (N := some 67) (v := ?_) (a' := ?_) #[true, true, true, true, true, true, true, false, false, false, false, false, false, false, false, false, false, false, false, false, false, false] rfl rfl (by kernel_rfl) (fun _ _ _ h => h) (Or.inl ⟨by rfl, ?_⟩) ?_ ?_
                rotate_left
                · intro w'
                  go_simp
                  with_reducible rfl
                rotate_left
                · simp only [Act.put, List.setIfInBounds_toArray, List.set_cons_zero, List.set_cons_succ, i64_w, i32_w]
                  rfl
                refine take_ (i := 7) (N := some 68) (v := ?_) (a' := ?_) #[true, true, true, true, true, true, true, true, false, false, false, false, false, false, false, false, false, false, false, false, false, false] rfl rfl (by kernel_rfl) (fun _ _ _ h => h) (Or.inl ⟨by rfl, ?_⟩) hHeld ?_ ?_
                rotate_left
                · intro w' hS
                  have y0_ := pw_cell_below hS X0.out
                  go_simp
                  with_reducible rfl
                rotate_left
                · simp only [Act.put, List.setIfInBounds_toArray, List.set_cons_zero, List.set_cons_succ, i64_w, i32_w]
                  rfl
                refine pure_ (i := 8) (N := some 69) (v := ?_) (a' := ?_) #[true, true, true, true, true, true, true, true, true, false, false, false, false, false, false, false, false, false, false, false, false, false] rfl rfl (by kernel_rfl) (fun _ _ _ h => h) (Or.inl ⟨by rfl, ?_⟩) ?_ ?_
                rotate_left
                · intro w'
                  go_simp
                  with_reducible rfl
                rotate_left
                · simp only [Act.put, List.setIfInBounds_toArray, List.set_cons_zero, List.set_cons_succ, i64_w, i32_w]
                  rfl
                refine pure_ (i := 9) (N := some 70) (v := ?_) (a' := ?_) #[true, true, true, true, true, true, true, true, true, true, false, false, false, false, false, false, false, false, false, false, false, false] rfl rfl (by kernel_rfl) (fun _ _ _ h => h) (Or.inl ⟨by rfl, ?_⟩) ?_ ?_
                rotate_left
                · intro w'
                  go_simp
                  with_reducible rfl
                rotate_left
                · simp only [Act.put, List.setIfInBounds_toArray, List.set_cons_zero, List.set_cons_succ, i64_w, i32_w]
                  rfl
                refine pure_ (i := 10) (N := some 71) (v := undef) (a' := ?_) #[true, true, true, true, true, true, true, true, true, true, true, false, false, false, false, false, false, false, false, false, false, false] rfl rfl (by kernel_rfl) (fun _ _ _ h => h) (Or.inr ⟨by rfl, rfl⟩) ?_ ?_
                rotate_left
                · simp only [Act.put, List.setIfInBounds_toArray, List.set_cons_zero, List.set_cons_succ, i64_w, i32_w]
                  rfl
                refine pure_ (i := 11) (N := some 72) (v := undef) (a' := ?_) #[true, true, true, true, true, true, true, true, true, true, true, true, false, false, false, false, false, false, false, false, false, false] rfl rfl (by kernel_rfl) (fun _ _ _ h => h) (Or.inr ⟨by rfl, rfl⟩) ?_ ?_
                rotate_left
                · simp only [Act.put, List.setIfInBounds_toArray, List.set_cons_zero, List.set_cons_succ, i64_w, i32_w]
                  rfl
                refine pure_ (i := 12) (N := some 73) (v := undef) (a' := ?_) #[true, true, true, true, true, true, true, true, true, true, true, true, true, false, false, false, false, false, false, false, false, false] rfl rfl (by kernel_rfl) (fun _ _ _ h => h) (Or.inr ⟨by rfl, rfl⟩) ?_ ?_
                rotate_left
                · simp only [Act.put, List.setIfInBounds_toArray, List.set_cons_zero, List.set_cons_succ, i64_w, i32_w]
                  rfl
                refine pure_ (i := 13) (N := some 74) (v := undef) (a' := ?_) #[true, true, true, true, true, true, true, true, true, true, true, true, true, true, false, false, false, false, false, false, false, false] rfl rfl (by kernel_rfl) (fun _ _ _ h => h) (Or.inr ⟨by rfl, rfl⟩) ?_ ?_
                rotate_left
                · simp only [Act.put, List.setIfInBounds_toArray, List.set_cons_zero, List.set_cons_succ, i64_w, i32_w]
                  rfl
                refine pure_ (i := 14) (N := some 75) (v := undef) (a' := ?_) #[true, true, true, true, true, true, true, true, true, true, true, true, true, true, true, false, false, false, false, false, false, false] rfl rfl (by kernel_rfl) (fun _ _ _ h => h) (Or.inr ⟨by rfl, rfl⟩) ?_ ?_
                rotate_left
                · simp only [Act.put, List.setIfInBounds_toArray, List.set_cons_zero, List.set_cons_succ, i64_w, i32_w]
                  rfl
                refine pure_ (i := 15) (N := some 76) (v := undef) (a' := ?_) #[true, true, true, true, true, true, true, true, true, true, true, true, true, true, true, true, false, false, false, false, false, false] rfl rfl (by kernel_rfl) (fun _ _ _ h => h) (Or.inr ⟨by rfl, rfl⟩) ?_ ?_
                rotate_left
                · simp only [Act.put, List.setIfInBounds_toArray, List.set_cons_zero, List.set_cons_succ, i64_w, i32_w]
                  rfl
                refine pure_ (i := 16) (N := some 77) (v := undef) (a' := ?_) #[true, true, true, true, true, true, true, true, true, true, true, true, true, true, true, true, true, false, false, false, false, false] rfl rfl (by kernel_rfl) (fun _ _ _ h => h) (Or.inr ⟨by rfl, rfl⟩) ?_ ?_
                rotate_left
                · simp only [Act.put, List.setIfInBounds_toArray, List.set_cons_zero, List.set_cons_succ, i64_w, i32_w]
                  rfl
                refine pure_ (i := 17) (N := some 78) (v := undef) (a' := ?_) #[true, true, true, true, true, true, true, true, true, true, true, true, true, true, true, true, true, true, false, false, false, false] rfl rfl (by kernel_rfl) (fun _ _ _ h => h) (Or.inr ⟨by rfl, rfl⟩) ?_ ?_
                rotate_left
                · simp only [Act.put, List.setIfInBounds_toArray, List.set_cons_zero, List.set_cons_succ, i64_w, i32_w]
                  rfl
                refine pure_ (i := 18) (N := some 79) (v := undef) (a' := ?_) #[true, true, true, true, true, true, true, true, true, true, true, true, true, true, true, true, true, true, true, false, false, false] rfl rfl (by kernel_rfl) (fun _ _ _ h => h) (Or.inr ⟨by rfl, rfl⟩) ?_ ?_
                rotate_left
                · simp only [Act.put, List.setIfInBounds_toArray, List.set_cons_zero, List.set_cons_succ, i64_w, i32_w]
                  rfl
                refine pure_ (i := 19) (N := some 80) (v := ?_) (a' := ?_) #[true, true, true, true, true, true, true, true, true, true, true, true, true, true, true, true, true, true, true, true, false, false] rfl rfl (by kernel_rfl) (fun _ _ _ h => h) (Or.inl ⟨by rfl, ?_⟩) ?_ ?_
                rotate_left
                · intro w'
                  go_simp
                  with_reducible rfl
                rotate_left
                · simp only [Act.put, List.setIfInBounds_toArray, List.set_cons_zero, List.set_cons_succ, i64_w, i32_w]
                  rfl
                refine pure_ (i := 20) (N := some 81) (v := ?_) (a' := ?_) #[true, true, true, true, true, true, true, true, true, true, true, true, true, true, true, true, true, true, true, true, true, false] rfl rfl (by kernel_rfl) (fun _ _ _ h => h) (Or.inl ⟨by rfl, ?_⟩) ?_ ?_
                rotate_left
                · intro w'
                  go_simp
                  with_reducible rfl
                rotate_left
                · simp only [Act.put, List.setIfInBounds_toArray, List.set_cons_zero, List.set_cons_succ, i64_w, i32_w]
                  rfl
                refine pure_ (i := 21) (N := some 12) (v := ?_) (a' := ?_) #[true, true, true, true, true, true, true, true, true, true, true, true, true, true, true, true, true, true, true, true, true, true] rfl rfl (by kernel_rfl) (fun _ _ _ h => h) (Or.inl ⟨by rfl, ?_⟩) ?_ ?_
                rotate_left
                · intro w'
                  go_simp
                  with_reducible rfl
                rotate_left
                · simp only [Act.put, List.setIfInBounds_toArray, List.set_cons_zero, List.set_cons_succ, i64_w, i32_w]
                  rfl
                refine done_ (by kernel_rfl) ?_

                replace HW := Aside0.mk (below_drew HW.out)
                go_wp2_with fail
                go_roundw
                case rel => exact ⟨k + 1, by omega, by rw [HTK.out], by go_num, HW⟩
                case measure => simp [intOf]; omega
          · obtain rfl : k = l.length := by omega
            rw [List.take_length]
            have HK5 := Aside0.mk (blk_below HV5.out HW.out)
            have HK6 := Aside0.mk (blk_below HV6.out HW.out)
            clear hk hlt HS HV5 HV6
            go_upto_region 15 with fail
            clear a0_ a1_
            obtain ⟨w6, hw6⟩ : ∃ y, y = wr := ⟨_, rfl⟩
            subst hw6
            have HBB := Aside0.mk (below_alloc (Below.refl w6.heap.size w6) (.cells #[.slice A0 l.length c0, .int .i64 p] 24))
            have HM2 := Aside0.mk (blk_new w6 (.cells #[.slice A0 l.length c0, .int .i64 p] 24))
            have HBW := HBB
            generalize w6.alloc (.cells #[.slice A0 l.length c0, .int .i64 p] 24) = w7 at HBB HM2 HBW ⊢
            obtain ⟨g11, HG11⟩ : ∃ g, Aside0 (w6.heap.size = g) := ⟨_, ⟨rfl⟩⟩
            rw [HG11.out] at HM2 ⊢
            have HGM : Aside0 (w6.heap.size ≤ g11) := ⟨Nat.le_of_eq HG11.out⟩
            have HSB := Aside0.mk (Two.mk HSK.out.b1 HK6.out)
            have HL0 : Aside0 (0 < l.length) := ⟨by omega⟩
            have HL1 : Aside0 (l.length ≤ 1000) := ⟨by omega⟩
            have HC6 := Aside0.mk (Kd.C_below HC.out HSK.out.bl)
            obtain ⟨ad, cs, hA_, hrp_, hcc_, _⟩ := inner_C HC6.out HL0.out
            have HAD := Aside0.mk hA_
            have HRP : Aside0 (Reps (Kd.K k40 w6) 6 l cs) := ⟨hrp_⟩
            have HCC := Aside0.mk hcc_
            clear hA_ hrp_ hcc_
            have HR5 : Aside0 (Kd.C (Kd.int .i64) w6 (some ⟨g5, 0, none⟩) 1 [(F : Int)]) := ⟨⟨rfl, by decide, fun _ => ⟨_, rfl, fun j q hj => by
              cases j with
              | zero =>
                obtain rfl : (F : Int) = q := by simpa using hj
                refine ⟨[.int .i64 (F : Int)], rfl, rfl, fun i u hu => ?_⟩
                cases i with
                | zero => obtain rfl : Value.int .i64 (F : Int) = u := by simpa using hu
                          exact (blk_cell HK5.out 0).trans rfl
                | succ i => simp at hu
              | succ j => simp at hj⟩⟩⟩
            have HKV : Aside0 (∀ wX, Below w6.heap.size w6 wX → Kd.K k40 wX (sinkV (F : Int) (N : Int)) [.int .i64 10, .slice (some ⟨g5, 0, none⟩) 1 1, .int .i64 0, .int .i64 0, .slice none 0 0, .int .i64 (N : Int)]) := ⟨fun wX hb => k40_mk wX (sinkV (F : Int) (N : Int)) (Nat.le_refl 1) (Kd.C_below HR5.out hb) (Nat.le_refl 0) (Kd.C_nil _ _)⟩
            refine start_ (n := 9) (S := fun w' => Below w6.heap.size w6 w') (ds := []) #[false, false, false, false, false, false, false, false, false] (by kernel_rfl) rfl rfl (below_drew HBB.out) (fun hHeld => ?_)
            refine pure_ (i := 1) (N := some 84) (v := ?_) (a' := ?_) #[false, true, false, false, false, false, false, false, false] rfl rfl (by kernel_rfl) (fun _ _ _ h => h) (Or.inl ⟨by rfl, ?_⟩) ?_ ?_
            rotate_left
            · intro w'
              go_simp
              with_reducible rfl
            rotate_left
            · simp only [Act.put, List.setIfInBounds_toArray, List.set_cons_zero, List.set_cons_succ, i64_w, i32_w]
              rfl
            refine take_ (i := 2) (N := some 85) (v := ?_) (a' := ?_) #[false, true, true, false, false, false, false, false, false] rfl rfl (by kernel_rfl) (fun _ _ _ h => h) (Or.inl ⟨by rfl, ?_⟩) hHeld ?_ ?_
            rotate_left
            · intro w' hS
              have y0_ := (blk_cell (blk_below HSB.out.b1 hS) 0).trans (rfl : _ = some (.slice A0 l.length c0 : Value))
              go_simp
              with_reducible rfl
            rotate_left
            · simp only [Act.put, List.setIfInBounds_toArray, List.set_cons_zero, List.set_cons_succ, i64_w, i32_w]
              rfl
            refine take_ (i := 4) (N := some 87) (v := ?_) (a' := ?_) #[false, true, true, false, true, false, false, false, false] rfl rfl (by kernel_rfl) (fun _ _ _ h => h) (Or.inl ⟨by rfl, ?_⟩) hHeld ?_ ?_
            rotate_left
            · intro w' hS
              have y0_ := (blk_cell (blk_below HSB.out.b2 hS) 0).trans (rfl : _ = some (.int .i64 10 : Value))
              have y1_ := (blk_cell (blk_below HSB.out.b2 hS) 1).trans (rfl : _ = some (.slice (some ⟨g5, 0, none⟩) 1 1 : Value))
              have y2_ := (blk_cell (blk_below HSB.out.b2 hS) 2).trans (rfl : _ = some (.int .i64 0 : Value))
              have y3_ := (blk_cell (blk_below HSB.out.b2 hS) 3).trans (rfl : _ = some (.int .i64 0 : Value))
              have y4_ := (blk_cell (blk_below HSB.out.b2 hS) 4).trans (rfl : _ = some (.slice none 0 0 : Value))
              have y5_ := (blk_cell (blk_below HSB.out.b2 hS) 5).trans (rfl : _ = some (.int .i64 (N : Int) : Value))
              go_simp
              with_reducible rfl
            rotate_left
            · simp only [Act.put, List.setIfInBounds_toArray, List.set_cons_zero, List.set_cons_succ, i64_w, i32_w]
              rfl
            refine mono_ (l := #[false, true, true, false, true, false, false, false, false]) [⟨0, 83, []⟩, ⟨3, 86, [0]⟩, ⟨5, 88, []⟩] #[true, true, true, true, true, true, false, false, false] (fun s v w_ => (s = 83 → E0 w_ v) ∧ (s = 86 → OW w7.heap.size l.length cs w_ v) ∧ (s = 88 → BX [.int .i64 10, .slice (some ⟨g5, 0, none⟩) 1 1, .int .i64 0, .int .i64 0, .slice none 0 0, .int .i64 (N : Int)] w_ v) ∧ True) (fun w_ => Below w7.heap.size w7 w_) 3 (by kernel_rfl) (by kernel_rfl) ?_ (fun _ h => below_step HBB.out h) (below_drew (Below.refl _ _)) ?_ ?_ ?_
            · simp
            · intro s v w_ w2_ h hb
              exact ⟨fun e => (h.1 e).below hb, fun e => (h.2.1 e).below hb, fun e => (h.2.2.1 e).below hb, trivial⟩
            · intro c hc a2 w2_ hG hbase hdep
              simp only [List.mem_cons, List.not_mem_nil, or_false] at hc
              rcases hc with rfl | rfl | rfl
              · skip
                refine wpOp_mono (fun a3 w3_ h => ?_) (valueM_ (w0 := w7) (T := fun v w_ => E0 w_ v) (w1 := w2_.alloc (.cells #[] 40)) (v := .slice (some ⟨w2_.heap.size, 0, none⟩) 0 0) (by rfl) rfl rfl (by first | (go_simp; done) | (go_simp; rfl)) hG (⟨_, rfl⟩) (below_alloc (Below.refl _ _) _))
                obtain ⟨v, h1, h2, h3, h4⟩ := h
                exact ⟨v, h1, ⟨fun _ => h2, fun e => absurd e (by decide), fun e => absurd e (by decide), trivial⟩, h3, h4⟩
              · skip
                obtain ⟨v83, e83, k_⟩ := hdep ⟨0, 83, []⟩ (by simp) (by simp)
                have k83 : E0 w2_ v83 := k_.1 rfl
                have e85 := (hbase 85 (by simp)).trans (rfl : _ = some (.slice A0 l.length c0 : Value))
                obtain ⟨va, wa, hra, hoa, hba⟩ := app_first w6 w2_ l A0 c0 cs ad HAD.out HL0.out HL1.out HRP.out HCC.out (below_step HBW.out hG) v83 k83 22
                refine wpOp_mono (fun a3 w3_ h => ?_) (valueM_ (w0 := w7) (T := fun v w_ => OW w7.heap.size l.length cs w_ v) (w1 := wa) (v := va) (by rfl) rfl rfl (append_exec (.tmp 83) (.tmp 85) 22 rfl (eval_tmp e83) (eval_tmp e85) hra) hG (hoa.lower hG.size) (hba))
                obtain ⟨v, h1, h2, h3, h4⟩ := h
                exact ⟨v, h1, ⟨fun e => absurd e (by decide), fun _ => h2, fun e => absurd e (by decide), trivial⟩, h3, h4⟩
              · skip
                have e87 := (hbase 87 (by simp)).trans (rfl : _ = some (.agg #[.int .i64 10, .slice (some ⟨g5, 0, none⟩) 1 1, .int .i64 0, .int .i64 0, .slice none 0 0, .int .i64 (N : Int)] : Value))
                refine wpOp_mono (fun a3 w3_ h => ?_) (valueM_ (w0 := w7) (T := fun v w_ => BX [.int .i64 10, .slice (some ⟨g5, 0, none⟩) 1 1, .int .i64 0, .int .i64 0, .slice none 0 0, .int .i64 (N : Int)] w_ v) (w1 := w2_.alloc (.cells #[.int .i64 10, .slice (some ⟨g5, 0, none⟩) 1 1, .int .i64 0, .int .i64 0, .slice none 0 0, .int .i64 (N : Int)] 40)) (v := .slice (some ⟨w2_.heap.size, 0, none⟩) 1 1) (by rfl) rfl rfl (by have e_ := eval_tmp e87; first | (go_simp; done) | (go_simp; rfl)) hG (⟨_, rfl, blk_new _ _⟩) (below_alloc (Below.refl _ _) _))
                obtain ⟨v, h1, h2, h3, h4⟩ := h
                exact ⟨v, h1, ⟨fun e => absurd e (by decide), fun e => absurd e (by decide), fun _ => h2, trivial⟩, h3, h4⟩
            intro vs w2_ hG_ hT_
            have k83 := (hT_ ⟨0, 83, []⟩ (by simp)).1 rfl
            have k86 := (hT_ ⟨3, 86, [0]⟩ (by simp)).2.1 rfl
            have k88 := (hT_ ⟨5, 88, []⟩ (by simp)).2.2.1 rfl
            clear hT_ hHeld
            have hHeld := hG_
            refine norm_ (a' := ?_) ?_ ?_
            rotate_left
            · simp only [putAll, List.map_cons, List.map_nil, Act.put, List.setIfInBounds_toArray, List.set_cons_zero, List.set_cons_succ]
              rfl
            generalize vs 83 = v83 at k83 ⊢
            generalize vs 86 = v86 at k86 ⊢
            generalize vs 88 = v88 at k88 ⊢
            refine one_ (i := 6) (N := some 89) #[true, true, true, true, true, true, true, false, false] rfl rfl (by kernel_rfl) (by simp) (fun K hK => ?_)
            obtain ⟨v9, w9, hrun_, ho_, hb1_, hgr_, hob_⟩ := app_more w7 w2_ w7.heap.size l.length cs [.int .i64 10, .slice (some ⟨g5, 0, none⟩) 1 1, .int .i64 0, .int .i64 0, .slice none 0 0, .int .i64 (N : Int)] v86 v88 k86 k88 HL1.out rfl (by simp [Value.oneCell']) hG_ (Nat.le_refl _) hG_.size 22
            refine step_runT (by rfl) (.tmp 86) (.tmp 88) 22 rfl rfl rfl rfl hrun_ ?_
            have hm_ := blk_grown (blk_below HM2.out hG_) hgr_ (fun h => by have h5 := hob_ _ h.symm; have h6 := blk_lt HM2.out; omega)
            have hb_ := below_step HBB.out hb1_
            refine hK.out _ _ hb_ (fun _ => ?_)
            clear hK K
            refine norm_ (a' := ?_) ?_ ?_
            rotate_left
            · show Act.put _ (some 89) _ = _
              simp only [Act.put, List.setIfInBounds_toArray, List.set_cons_zero, List.set_cons_succ, i64_w, i32_w]
              rfl
            replace hHeld := hb_
            clear hb_
            refine pure_ (i := 7) (N := some 90) (v := ?_) (a' := ?_) #[true, true, true, true, true, true, true, true, false] rfl rfl (by kernel_rfl) (fun _ _ _ h => h) (Or.inl ⟨by rfl, ?_⟩) ?_ ?_
            rotate_left
            · intro w'
              go_simp
              with_reducible rfl
            rotate_left
            · simp only [Act.put, List.setIfInBounds_toArray, List.set_cons_zero, List.set_cons_succ, i64_w, i32_w]
              rfl
            refine one_ (i := 8) (N := none) #[true, true, true, true, true, true, true, true, true] rfl rfl (by kernel_rfl) (by simp) (fun K hK => ?_)
            obtain ⟨g9, c9, rfl, hc9_, hg9_, hC9_⟩ := C_of_own (d := k40) (show World.ownsRow w9 w7.heap.size 40 6 v9 (l.length + 1) _ from ho_) ((reps_below HRP.out (below_step HBW.out hb1_)).snoc (HKV.out w9 (below_step HBW.out hb1_)) rfl) (by rw [List.length_append]; rfl) (Nat.succ_pos _)
            have z0_ := (blk_cell hm_ 0).trans rfl
            have f0_ := blk_frozen hm_ 0
            refine skip_ (w1 := w9.setCell ⟨g11, 0, none⟩ (.slice (some ⟨g9, 0, none⟩) (l.length + 1) c9)) (by rfl) rfl (by first | (go_simp; done) | (go_simp; rfl)) ?_
            clear z0_ f0_
            have hb_ : Below w6.heap.size w6 (w9.setCell ⟨g11, 0, none⟩ (.slice (some ⟨g9, 0, none⟩) (l.length + 1) c9)) := below_set hHeld HGM.out
            refine hK.out _ _ hb_ (fun _ => ?_)
            clear hK K
            skip
            clear hb_
            refine done_ (by kernel_rfl) ?_

            have HM10 := Aside0.mk (blk_put hm_ 0 (.slice (some ⟨g9, 0, none⟩) (l.length + 1) c9) (rfl : _ = (#[.slice (some ⟨g9, 0, none⟩) (l.length + 1) c9, .int .i64 p] : Array Value)))
            have HO10 := Aside0.mk (OW.set ho_ (g := g11) (by have := blk_lt HM2.out; omega) 0 (.slice (some ⟨g9, 0, none⟩) (l.length + 1) c9))
            have hb_ : Below w6.heap.size w6 (w9.setCell ⟨g11, 0, none⟩ (.slice (some ⟨g9, 0, none⟩) (l.length + 1) c9)) := below_set hHeld HGM.out
            generalize w9.setCell ⟨g11, 0, none⟩ (.slice (some ⟨g9, 0, none⟩) (l.length + 1) c9) = w10 at HM10 HO10 hb_ ⊢
            have HS := Aside0.mk (HSK.out.step hb_)
            have HC10 : Aside0 (Kd.C k40 w10 (some ⟨g9, 0, none⟩) (l ++ [sinkV (F : Int) (N : Int)]).length (l ++ [sinkV (F : Int) (N : Int)])) := ⟨by
              obtain ⟨g, c, he, _, _, hC⟩ := C_of_own (d := k40) (show World.ownsRow w10 w7.heap.size 40 6 _ (l.length + 1) _ from HO10.out) ((reps_below HRP.out hb_).snoc (HKV.out w10 hb_) rfl) (by rw [List.length_append]; rfl) (Nat.succ_pos _)
              injection he with he1
              injection he1 with he1
              injection he1 with he1
              subst he1
              rw [List.length_append]
              exact hC⟩
            clear hb_ ho_ hm_ hC9_ hgr_ hob_ hb1_ hHeld hG_ HSB HBB HBW HM2
            have HAPP := Aside0.mk (check_app l (sinkV (F : Int) (N : Int)) p (by omega) hl24)
            obtain ⟨⟨k3, g3⟩, HCK3⟩ : ∃ q, Aside0 (checkOf (l ++ [sinkV (F : Int) (N : Int)]) p = q) := ⟨_, ⟨rfl⟩⟩
            have HCO3 := check_ok (some ⟨g9, 0, none⟩) c9 (l ++ [sinkV (F : Int) (N : Int)]) p w10 HC10.out (okV_of (fun u hu => by
              rcases List.mem_append.1 hu with hu | hu
              · exact (HV.out u hu).2.2.2
              · obtain rfl : u = sinkV (F : Int) (N : Int) := by simpa using hu
                show I64 (N : Int)
                unfold I64
                omega))
            rw [HCK3.out, show (l ++ [sinkV (F : Int) (N : Int)]).length = l.length + 1 by rw [List.length_append]; rfl] at HCO3
            rw [HCK3.out, HCK.out, if_pos HE0.out, sink_vert l (F : Int) (N : Int) (by omega) (by omega) ⟨by omega, by omega⟩] at HAPP
            simp only at HCO3
            have HCO4 := Aside0.mk HCO3
            clear HCO3
            have z0_ := (blk_cell HM10.out 0).trans (rfl : _ = some (.slice (some ⟨g9, 0, none⟩) (l.length + 1) c9 : Value))
            have z1_ := (blk_cell HM10.out 1).trans (rfl : _ = some (.int .i64 p : Value))
            obtain ⟨tb, HTB⟩ : ∃ b, Aside0 (takenB l (N : Int) = b) := ⟨_, ⟨rfl⟩⟩
            rw [HTB.out] at HAPP ⊢
            go_wp2_with fail
            refine HCO4.out.mono ?_
            rintro e w11 ⟨rfl, hb_⟩
            replace HS := Aside0.mk (HS.out.step hb_)
            clear hb_ z0_ z1_ HCO4 HM10 HO10 HC10
            have HB := Aside0.mk HS.out.bl
            have a0_ := (blk_cell HS.out.b1 0).trans (rfl : _ = some (.slice A0 l.length c0 : Value))
            have a1_ := (blk_cell HS.out.b1 1).trans (rfl : _ = some (.int .i64 p : Value))

            obtain ⟨ad2, _, _, _, _, hA2, x0, _⟩ := at_T40 (Kd.C_below HC.out HS.out.bl) (F : Int) (by omega) (by omega)
            change w11.cell? _ = some (.int .i64 (vAt l (F : Int)).f0) at x0
            obtain ⟨u, HU⟩ : ∃ u, Aside0 (vAt l (F : Int) = u) := ⟨_, ⟨rfl⟩⟩
            rw [HU.out] at x0 HAPP
            simp only [Int.toNat_natCast] at x0
            have hFl : (F : Int) < (l.length : Int) := by omega
            subst hA2
            have ha := HAPP.out
            cases tb with
            | true =>
              rw [if_pos rfl, if_neg (by decide)] at ha
              injection ha with ha1 ha2
              subst ha1 ha2
              go_wp2_with fail
              go_ret
              exact ⟨rfl, HB.out⟩
            | false =>
              rw [if_neg (show ¬ (false = true) by decide)] at ha
              by_cases h10 : u.f0 = 10
              · rw [if_pos h10, if_neg (by decide)] at ha
                injection ha with ha1 ha2
                have h10b : (u.f0 != 10) = false := by simpa using h10
                subst ha1 ha2
                clear h10
                go_wp2_with fail
                go_ret
                exact ⟨rfl, HB.out⟩
              · rw [if_neg h10, if_pos rfl] at ha
                injection ha with ha1 ha2
                have h10b : (u.f0 != 10) = true := by simpa using h10
                subst ha1 ha2
                clear h10
                go_wp2_with fail
                go_ret
                exact ⟨rfl, HB.out⟩
      · have heb : (e0 != 0) = true := by simpa using he
        have HB := Aside0.mk HS.out.bl
        clear he
        go_wp2_with fail
        go_ret
        exact ⟨rfl, HB.out⟩
theorem open_T {w : World} {t : List Vx × Int} {cs : List Value} (h : (Kd.pair (Kd.slice 40 k40) (Kd.int .i64)).K w t cs) : ∃ A c, cs = [.slice A t.1.length c, .int .i64 t.2] ∧ t.1.length ≤ c ∧ Kd.C k40 w A t.1.length t.1 := by
  obtain ⟨_, _, rfl, ⟨A, c, rfl, l1, g1⟩, rfl⟩ := h
  exact ⟨A, c, rfl, l1, g1⟩
theorem wfq_u8 {n : Int} (h : (Lit.int .u8 n).wf = true) : 0 ≤ n ∧ n ≤ 255 := by
  simp [Lit.wf, IntKind.min, IntKind.max, IntKind.bits, IntKind.signed] at h
  omega
end Go.Proofs.Yteanncfmaomhaaa.Ex
