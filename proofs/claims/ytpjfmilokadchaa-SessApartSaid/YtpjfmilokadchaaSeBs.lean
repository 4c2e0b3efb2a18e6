/- (c14) slices.BinarySearchFunc at sessions, by sess.order (the walk). -/
import Derived.Test.YtpjfmilokadchaaSeFind
import Derived.Test.YtpjfmilokadchaaMono
namespace Go.Proofs.Ytpjfmilokadchaa.Se
open Go Go.RowKit Go.Proofs.YtpjfmilokadchaaW.PrintWords Go.Proofs.YtpjfmilokadchaaW.PrintLast Go.Proofs.YtpjfmilokadchaaW.PrintMore Go.Proofs.Ytpjfmilokadchaa.Rw Go.Proofs.Ytpjfmilokadchaa.Mono
set_option linter.unusedVariables false
set_option linter.unusedSimpArgs false
theorem goesV_ {P : Program} {ops : Array Oper} {Q : Exit → Act → World → Prop} {oi : Oper} {N : Option Tmp} {a : Act} {w : World} {K : Act → World → Prop} {f : FuncId} {fn : Func} {x : Operand} {xs : Array Operand} {ts : Array TypeId} (hf : P.funcs[f]? = some fn) (hname : (fn.name == "runtime.NumGoroutine") = false) (hb : fn.body.isSome = true) (args : Array Value)
    (hw : Region.wanted oi (yielded ops a.tmps) = true) (hN : oi.dst = N) (hop : oi.op = .call { callee := .value x, args := xs, argTypes := ts }) (hx : a.eval x = .func (.func f) #[] #[]) (hargs : xs.map a.eval = args)
    (h : Calls P f args w fun e w' => ∃ v, e = .returned v ∧ K (a.put N v) w') : if Region.wanted oi (yielded ops a.tmps) = true then Oper.wp P oi a w K Q else K (a.put N undef) w := by
  refine call_ f args hw hN ?_ h
  have he := enters_ hf hname hb args w
  unfold execOp
  simp [hop, resolve, Deferred.ofValue, invoke, hx, hargs, he]
set_option maxHeartbeats 2000000 in
theorem bs_ok (base n c : Nat) (A : Option Addr) (L : List Ses) (x : Ses) (w : World) (hn : L.length = n) (hown : w.ownsRow base 53 3 (.slice A n c) n (cellsS L)) (hrise : Rise L) (hlen : n ≤ 5000) (hx : Span x) (hL : ∀ y ∈ L, Span y) :
    Calls Try.prog 29 #[.slice A n c, .agg #[.int .i64 x.k, spanV x.a x.b, .int .i64 x.v], .func (.func 30) #[] #[]] w fun e w' => e = .returned (.tuple #[.int .i64 (idxS L x : Nat), .bool (hasS L x)]) ∧ Below w.heap.size w w' := by
  have HB := Aside0.mk (Below.refl w.heap.size w)
  have HO := Aside0.mk hown
  have HR := Aside0.mk hrise
  have HN := Aside0.mk hn
  have HX := Aside0.mk hx
  have HSL := Aside0.mk hL
  obtain ⟨i0, HE0⟩ : ∃ i0, Aside0 (idxS L x = i0) := ⟨_, ⟨rfl⟩⟩
  obtain ⟨q, HQ⟩ : ∃ q, Aside0 (hasS L x = q) := ⟨_, ⟨rfl⟩⟩
  rw [HE0.out, HQ.out]
  clear hown hrise hn hx hL
  go_enter Try.func29, Try.ntmps29
  go_wp2_with fail
  have HBW := Aside0.mk (below_alloc (Below.refl w.heap.size w) (.cells #[.int .i64 x.k, spanV x.a x.b, .int .i64 x.v] 53))
  have HPB := Aside0.mk (heap_alloc_new w (.cells #[.int .i64 x.k, spanV x.a x.b, .int .i64 x.v] 53))
  generalize w.alloc (.cells #[.int .i64 x.k, spanV x.a x.b, .int .i64 x.v] 53) = w1 at HBW HPB ⊢
  go_loopw [9, 10] (fun s9 s10 wr => ∃ lo hi : Nat, s9 = .int .i64 (lo : Int) ∧ s10 = .int .i64 (hi : Int) ∧ lo ≤ hi ∧ hi ≤ n ∧ Aside0 (Below w1.heap.size w1 wr) ∧
    Aside0 ((∀ t, t < lo → ∀ p, L[t]? = some p → ltB p x = true) ∧ (∀ t, hi ≤ t → ∀ p, L[t]? = some p → ltB p x = false))) (fun s9 s10 _ => (intOf s10).toNat - (intOf s9).toNat)
  case atStart => exact ⟨0, n, rfl, rfl, Nat.zero_le _, Nat.le_refl _, ⟨Below.refl _ _⟩, ⟨fun t ht => absurd ht (Nat.not_lt_zero _), fun t h1 p hp => by have := (List.getElem?_eq_some_iff.1 hp).1; have := HN.out; omega⟩⟩
  case round =>
    clear HB
    obtain ⟨lo, hi, rfl, rfl, hlh, hin, HB, HI⟩ := hrel
    by_cases hlt : lo < hi
    · obtain ⟨p, hp⟩ : ∃ p, L[(lo + hi) / 2]? = some p := ⟨_, List.getElem?_eq_getElem (by rw [HN.out]; omega)⟩
      obtain ⟨g, rfl, hc⟩ := own_cells HO.out rfl hp
      have HCE := Aside0.mk hc
      have HP := Aside0.mk hp
      have HPS := Aside0.mk (HSL.out p (List.mem_of_getElem? hp))
      clear hp hc
      obtain ⟨M, HMD⟩ : ∃ M, Aside0 ((lo + hi) / 2 = M) := ⟨_, ⟨rfl⟩⟩
      have hcast : ((lo : Int) + (hi : Int)) / 2 = (M : Int) := by have := HMD.out; omega
      have hM1 : M < n := by have := HMD.out; omega
      have hM2 : (M : Int) < (n : Int) := by omega
      rw [HMD.out] at HCE HP
      go_upto_region 5 with fail
      refine start_ (n := 8) (S := fun w' => Below wr.heap.size wr w') (ds := []) #[false, false, false, false, false, false, false, false] (by kernel_rfl) rfl rfl (below_drew (Below.refl _ _)) (fun hHeld => ?_)
      refine pure_ (i := 0) (N := some 24) (v := ?_) (a' := ?_) #[true, false, false, false, false, false, false, false] rfl rfl (by kernel_rfl) (fun _ _ _ h => h) (Or.inl ⟨by rfl, ?_⟩) ?_ ?_
      rotate_left
      · intro w'
        go_simp
        with_reducible rfl
      rotate_left
      · simp only [Act.put, List.setIfInBounds_toArray, List.set_cons_zero, List.set_cons_succ, i64_w, i32_w]
        rfl
      refine pure_ (i := 1) (N := some 25) (v := ?_) (a' := ?_) #[true, true, false, false, false, false, false, false] rfl rfl (by kernel_rfl) (fun _ _ _ h => h) (Or.inl ⟨by rfl, ?_⟩) ?_ ?_
      rotate_left
      · intro w'
        go_simp
        with_reducible rfl
      rotate_left
      · simp only [Act.put, List.setIfInBounds_toArray, List.set_cons_zero, List.set_cons_succ, i64_w, i32_w]
        rfl
      refine pure_ (i := 2) (N := some 26) (v := ?_) (a' := ?_) #[true, true, true, false, false, false, false, false] rfl rfl (by kernel_rfl) (fun _ _ _ h => h) (Or.inl ⟨by rfl, ?_⟩) ?_ ?_
      rotate_left
      · intro w'
        go_simp
        with_reducible rfl
      rotate_left
      · simp only [Act.put, List.setIfInBounds_toArray, List.set_cons_zero, List.set_cons_succ, i64_w, i32_w]
        rfl
      refine pure_ (i := 3) (N := some 27) (v := ?_) (a' := ?_) #[true, true, true, true, false, false, false, false] rfl rfl (by kernel_rfl) (fun _ _ _ h => h) (Or.inl ⟨by rfl, ?_⟩) ?_ ?_
      rotate_left
      · intro w'
        go_simp
        with_reducible rfl
      rotate_left
      · simp only [Act.put, List.setIfInBounds_toArray, List.set_cons_zero, List.set_cons_succ, i64_w, i32_w]
        rfl
      refine take_ (i := 4) (N := some 28) (v := ?_) (a' := ?_) #[true, true, true, true, true, false, false, false] rfl rfl (by kernel_rfl) (fun _ _ _ h => h) (Or.inl ⟨by rfl, ?_⟩) hHeld ?_ ?_
      rotate_left
      · intro w' hS
        obtain ⟨x1_, x2_, x3_⟩ := HCE.out _ (below_step HBW.out (below_step HB.out hS))
        go_simp
        with_reducible rfl
      rotate_left
      · simp only [Act.put, List.setIfInBounds_toArray, List.set_cons_zero, List.set_cons_succ, i64_w, i32_w]
        rfl
      refine take_ (i := 5) (N := some 29) (v := ?_) (a' := ?_) #[true, true, true, true, true, true, false, false] rfl rfl (by kernel_rfl) (fun _ _ _ h => h) (Or.inl ⟨by rfl, ?_⟩) hHeld ?_ ?_
      rotate_left
      · intro w' hS
        have b0_ := (blk_cell (blk_below (blk_below HPB.out HB.out) hS) 0).trans (rfl : _ = some (.int .i64 x.k : Value))
        have b1_ := (blk_cell (blk_below (blk_below HPB.out HB.out) hS) 1).trans (rfl : _ = some (spanV x.a x.b : Value))
        have b2_ := (blk_cell (blk_below (blk_below HPB.out HB.out) hS) 2).trans (rfl : _ = some (.int .i64 x.v : Value))
        go_simp
        with_reducible rfl
      rotate_left
      · simp only [Act.put, List.setIfInBounds_toArray, List.set_cons_zero, List.set_cons_succ, i64_w, i32_w]
        rfl
      refine one_ (i := 6) (N := some 30) #[true, true, true, true, true, true, true, false] rfl rfl (by kernel_rfl) (by simp) (fun K hK => ?_)
      refine goesV_ Try.func30 (by kernel_rfl) rfl #[.agg #[.int .i64 p.k, spanV p.a p.b, .int .i64 p.v], .agg #[.int .i64 x.k, spanV x.a x.b, .int .i64 x.v]] (by rfl) rfl rfl rfl (by simp only [List.map_toArray, List.map_cons, List.map_nil]; rfl) ?_
      with_reducible refine (order_ok p x HPS.out HX.out _).mono ?_
      rintro e w3 ⟨rfl, hb_⟩
      refine ⟨_, rfl, ?_⟩
      replace hb_ := below_step hHeld hb_
      refine hK.out _ _ hb_ (fun _ => ?_)
      clear hK K
      refine norm_ (a' := ?_) ?_ ?_
      rotate_left
      · show Act.put _ (some 30) _ = _
        simp only [Act.put, List.setIfInBounds_toArray, List.set_cons_zero, List.set_cons_succ, i64_w, i32_w]
        rfl
      replace hHeld := hb_
      clear hb_
      refine pure_ (i := 7) (N := some 31) (v := ?_) (a' := ?_) #[true, true, true, true, true, true, true, true] rfl rfl (by kernel_rfl) (fun _ _ _ h => h) (Or.inl ⟨by rfl, ?_⟩) ?_ ?_
      rotate_left
      · intro w'
        go_simp
        with_reducible rfl
      rotate_left
      · simp only [Act.put, List.setIfInBounds_toArray, List.set_cons_zero, List.set_cons_succ, i64_w, i32_w]
        rfl
      refine done_ (by kernel_rfl) ?_

      replace HB := Aside0.mk (below_step HB.out hHeld)
      clear hHeld
      obtain ⟨m, HM⟩ : ∃ m : Int, Aside0 (ordI p x = m) := ⟨_, ⟨rfl⟩⟩
      have hmi := ord_lt (x := p) (y := x)
      rw [HM.out] at hmi ⊢
      by_cases hyk : m < 0
      · have hmb : decide (m < 0) = true := by simpa using hyk
        have HY := Aside0.mk (hmi.1 hyk)
        clear hyk hmi
        rw [hmb]
        go_wp2_with fail
        go_roundw
        case rel =>
          refine ⟨M + 1, hi, by go_num, rfl, by have := HMD.out; omega, hin, HB, ⟨fun t ht p' hp' => ?_, HI.out.2⟩⟩
          by_cases e : t = M
          · subst e
            rw [HP.out] at hp'
            injection hp' with hp'
            rw [← hp']; exact HY.out
          · have h1 := List.getElem?_eq_some_iff.1 HP.out
            have h2 := List.getElem?_eq_some_iff.1 hp'
            have := List.pairwise_iff_getElem.1 HR.out t M h2.1 h1.1 (by omega)
            rw [h1.2, h2.2] at this
            exact ltB_trans this HY.out
        case measure => have := HMD.out; simp [intOf]; omega
      · have hmb : decide (m < 0) = false := by simpa using hyk
        have HY : Aside0 (ltB p x = false) := ⟨by
          cases h : ltB p x with
          | false => rfl
          | true => exact absurd (hmi.2 h) hyk⟩
        clear hyk hmi
        rw [hmb]
        go_wp2_with fail
        go_roundw
        case rel =>
          refine ⟨lo, M, rfl, by go_num, by have := HMD.out; omega, by have := HMD.out; omega, HB, ⟨HI.out.1, fun t ht p' hp' => ?_⟩⟩
          by_cases e : t = M
          · subst e
            rw [HP.out] at hp'
            injection hp' with hp'
            rw [← hp']; exact HY.out
          · have h1 := List.getElem?_eq_some_iff.1 HP.out
            have h2 := List.getElem?_eq_some_iff.1 hp'
            have := List.pairwise_iff_getElem.1 HR.out M t h1.1 h2.1 (by omega)
            rw [h1.2, h2.2] at this
            cases h : ltB p' x with
            | false => rfl
            | true => have h3 := ltB_trans this h; rw [HY.out] at h3; cases h3
        case measure => have := HMD.out; simp [intOf]; omega
    · obtain rfl : hi = lo := by omega
      obtain rfl : i0 = hi := by rw [← HE0.out]; exact idx_of hi (by rw [HN.out]; exact hin) HI.out.1 HI.out.2
      have HG := Aside0.mk (has_at HR.out i0 HI.out.1 HI.out.2)
      by_cases hn : i0 < n
      · obtain ⟨p, hp⟩ : ∃ p, L[i0]? = some p := ⟨_, List.getElem?_eq_getElem (by rw [HN.out]; omega)⟩
        obtain ⟨g, rfl, hc⟩ := own_cells HO.out rfl hp
        have HCE := Aside0.mk hc
        have HPS := Aside0.mk (HSL.out p (List.mem_of_getElem? hp))
        have HQ2 : Aside0 (q = sameB p x) := ⟨by rw [← HQ.out, HG.out, hp]⟩
        clear hp hc
        go_upto_region 8 with fail
        refine start_ (n := 16) (S := fun w' => Below wr.heap.size wr w') (ds := []) #[false, false, false, false, false, false, false, false, false, false, false, false, false, false, false, false] (by kernel_rfl) rfl rfl (below_drew (Below.refl _ _)) (fun hHeld => ?_)
        refine pure_ (i := 0) (N := some 35) (v := ?_) (a' := ?_) #[true, false, false, false, false, false, false, false, false, false, false, false, false, false, false, false] rfl rfl (by kernel_rfl) (fun _ _ _ h => h) (Or.inl ⟨by rfl, ?_⟩) ?_ ?_
        rotate_left
        · intro w'
          go_simp
          with_reducible rfl
        rotate_left
        · simp only [Act.put, List.setIfInBounds_toArray, List.set_cons_zero, List.set_cons_succ, i64_w, i32_w]
          rfl
        refine pure_ (i := 1) (N := some 36) (v := ?_) (a' := ?_) #[true, true, false, false, false, false, false, false, false, false, false, false, false, false, false, false] rfl rfl (by kernel_rfl) (fun _ _ _ h => h) (Or.inl ⟨by rfl, ?_⟩) ?_ ?_
        rotate_left
        · intro w'
          go_simp
          with_reducible rfl
        rotate_left
        · simp only [Act.put, List.setIfInBounds_toArray, List.set_cons_zero, List.set_cons_succ, i64_w, i32_w]
          rfl
        refine pure_ (i := 2) (N := some 37) (v := ?_) (a' := ?_) #[true, true, true, false, false, false, false, false, false, false, false, false, false, false, false, false] rfl rfl (by kernel_rfl) (fun _ _ _ h => h) (Or.inl ⟨by rfl, ?_⟩) ?_ ?_
        rotate_left
        · intro w'
          go_simp
          with_reducible rfl
        rotate_left
        · simp only [Act.put, List.setIfInBounds_toArray, List.set_cons_zero, List.set_cons_succ, i64_w, i32_w]
          rfl
        refine pure_ (i := 3) (N := some 38) (v := ?_) (a' := ?_) #[true, true, true, true, false, false, false, false, false, false, false, false, false, false, false, false] rfl rfl (by kernel_rfl) (fun _ _ _ h => h) (Or.inl ⟨by rfl, ?_⟩) ?_ ?_
        rotate_left
        · intro w'
          go_simp
          with_reducible rfl
        rotate_left
        · simp only [Act.put, List.setIfInBounds_toArray, List.set_cons_zero, List.set_cons_succ, i64_w, i32_w]
          rfl
        refine pure_ (i := 4) (N := some 39) (v := ?_) (a' := ?_) #[true, true, true, true, true, false, false, false, false, false, false, false, false, false, false, false] rfl rfl (by kernel_rfl) (fun _ _ _ h => h) (Or.inl ⟨by rfl, ?_⟩) ?_ ?_
        rotate_left
        · intro w'
          go_simp
          with_reducible rfl
        rotate_left
        · simp only [Act.put, List.setIfInBounds_toArray, List.set_cons_zero, List.set_cons_succ, i64_w, i32_w]
          rfl
        refine pure_ (i := 5) (N := some 40) (v := ?_) (a' := ?_) #[true, true, true, true, true, true, false, false, false, false, false, false, false, false, false, false] rfl rfl (by kernel_rfl) (fun _ _ _ h => h) (Or.inl ⟨by rfl, ?_⟩) ?_ ?_
        rotate_left
        · intro w'
          go_simp
          with_reducible rfl
        rotate_left
        · simp only [Act.put, List.setIfInBounds_toArray, List.set_cons_zero, List.set_cons_succ, i64_w, i32_w]
          rfl
        refine pure_ (i := 6) (N := some 41) (v := ?_) (a' := ?_) #[true, true, true, true, true, true, true, false, false, false, false, false, false, false, false, false] rfl rfl (by kernel_rfl) (fun _ _ _ h => h) (Or.inl ⟨by rfl, ?_⟩) ?_ ?_
        rotate_left
        · intro w'
          go_simp
          with_reducible rfl
        rotate_left
        · simp only [Act.put, List.setIfInBounds_toArray, List.set_cons_zero, List.set_cons_succ, i64_w, i32_w]
          rfl
        refine pure_ (i := 7) (N := some 42) (v := ?_) (a' := ?_) #[true, true, true, true, true, true, true, true, false, false, false, false, false, false, false, false] rfl rfl (by kernel_rfl) (fun _ _ _ h => h) (Or.inl ⟨by rfl, ?_⟩) ?_ ?_
        rotate_left
        · intro w'
          go_simp
          with_reducible rfl
        rotate_left
        · simp only [Act.put, List.setIfInBounds_toArray, List.set_cons_zero, List.set_cons_succ, i64_w, i32_w]
          rfl
        refine pure_ (i := 8) (N := some 43) (v := ?_) (a' := ?_) #[true, true, true, true, true, true, true, true, true, false, false, false, false, false, false, false] rfl rfl (by kernel_rfl) (fun _ _ _ h => h) (Or.inl ⟨by rfl, ?_⟩) ?_ ?_
        rotate_left
        · intro w'
          go_simp
          with_reducible rfl
        rotate_left
        · simp only [Act.put, List.setIfInBounds_toArray, List.set_cons_zero, List.set_cons_succ, i64_w, i32_w]
          rfl
        refine take_ (i := 9) (N := some 44) (v := ?_) (a' := ?_) #[true, true, true, true, true, true, true, true, true, true, false, false, false, false, false, false] rfl rfl (by kernel_rfl) (fun _ _ _ h => h) (Or.inl ⟨by rfl, ?_⟩) hHeld ?_ ?_
        rotate_left
        · intro w' hS
          obtain ⟨x1_, x2_, x3_⟩ := HCE.out _ (below_step HBW.out (below_step HB.out hS))
          go_simp
          with_reducible rfl
        rotate_left
        · simp only [Act.put, List.setIfInBounds_toArray, List.set_cons_zero, List.set_cons_succ, i64_w, i32_w]
          rfl
        refine take_ (i := 10) (N := some 45) (v := ?_) (a' := ?_) #[true, true, true, true, true, true, true, true, true, true, true, false, false, false, false, false] rfl rfl (by kernel_rfl) (fun _ _ _ h => h) (Or.inl ⟨by rfl, ?_⟩) hHeld ?_ ?_
        rotate_left
        · intro w' hS
          have b0_ := (blk_cell (blk_below (blk_below HPB.out HB.out) hS) 0).trans (rfl : _ = some (.int .i64 x.k : Value))
          have b1_ := (blk_cell (blk_below (blk_below HPB.out HB.out) hS) 1).trans (rfl : _ = some (spanV x.a x.b : Value))
          have b2_ := (blk_cell (blk_below (blk_below HPB.out HB.out) hS) 2).trans (rfl : _ = some (.int .i64 x.v : Value))
          go_simp
          with_reducible rfl
        rotate_left
        · simp only [Act.put, List.setIfInBounds_toArray, List.set_cons_zero, List.set_cons_succ, i64_w, i32_w]
          rfl
        refine one_ (i := 11) (N := some 46) #[true, true, true, true, true, true, true, true, true, true, true, true, false, false, false, false] rfl rfl (by kernel_rfl) (by simp) (fun K hK => ?_)
        refine goesV_ Try.func30 (by kernel_rfl) rfl #[.agg #[.int .i64 p.k, spanV p.a p.b, .int .i64 p.v], .agg #[.int .i64 x.k, spanV x.a x.b, .int .i64 x.v]] (by rfl) rfl rfl rfl (by simp only [List.map_toArray, List.map_cons, List.map_nil]; rfl) ?_
        with_reducible refine (order_ok p x HPS.out HX.out _).mono ?_
        rintro e w3 ⟨rfl, hb_⟩
        refine ⟨_, rfl, ?_⟩
        replace hb_ := below_step hHeld hb_
        refine hK.out _ _ hb_ (fun _ => ?_)
        clear hK K
        refine norm_ (a' := ?_) ?_ ?_
        rotate_left
        · show Act.put _ (some 46) _ = _
          simp only [Act.put, List.setIfInBounds_toArray, List.set_cons_zero, List.set_cons_succ, i64_w, i32_w]
          rfl
        replace hHeld := hb_
        clear hb_
        refine pure_ (i := 12) (N := some 47) (v := ?_) (a' := ?_) #[true, true, true, true, true, true, true, true, true, true, true, true, true, false, false, false] rfl rfl (by kernel_rfl) (fun _ _ _ h => h) (Or.inl ⟨by rfl, ?_⟩) ?_ ?_
        rotate_left
        · intro w'
          go_simp
          with_reducible rfl
        rotate_left
        · simp only [Act.put, List.setIfInBounds_toArray, List.set_cons_zero, List.set_cons_succ, i64_w, i32_w]
          rfl
        refine pure_ (i := 13) (N := some 48) (v := ?_) (a' := ?_) #[true, true, true, true, true, true, true, true, true, true, true, true, true, true, false, false] rfl rfl (by kernel_rfl) (fun _ _ _ h => h) (Or.inl ⟨by rfl, ?_⟩) ?_ ?_
        rotate_left
        · intro w'
          go_simp
          with_reducible rfl
        rotate_left
        · simp only [Act.put, List.setIfInBounds_toArray, List.set_cons_zero, List.set_cons_succ, i64_w, i32_w]
          rfl
        refine pure_ (i := 14) (N := some 6) (v := ?_) (a' := ?_) #[true, true, true, true, true, true, true, true, true, true, true, true, true, true, true, false] rfl rfl (by kernel_rfl) (fun _ _ _ h => h) (Or.inl ⟨by rfl, ?_⟩) ?_ ?_
        rotate_left
        · intro w'
          go_simp
          with_reducible rfl
        rotate_left
        · simp only [Act.put, List.setIfInBounds_toArray, List.set_cons_zero, List.set_cons_succ, i64_w, i32_w]
          rfl
        refine pure_ (i := 15) (N := some 7) (v := ?_) (a' := ?_) #[true, true, true, true, true, true, true, true, true, true, true, true, true, true, true, true] rfl rfl (by kernel_rfl) (fun _ _ _ h => h) (Or.inl ⟨by rfl, ?_⟩) ?_ ?_
        rotate_left
        · intro w'
          go_simp
          with_reducible rfl
        rotate_left
        · simp only [Act.put, List.setIfInBounds_toArray, List.set_cons_zero, List.set_cons_succ, i64_w, i32_w]
          rfl
        refine done_ (by kernel_rfl) ?_

        replace HB := Aside0.mk (below_step HB.out hHeld)
        clear hHeld
        obtain ⟨m, HM⟩ : ∃ m : Int, Aside0 (ordI p x = m) := ⟨_, ⟨rfl⟩⟩
        have hmz := ord_zero (x := p) (y := x)
        rw [HM.out] at hmz ⊢
        by_cases e0 : m = 0
        · obtain rfl : q = true := by rw [HQ2.out]; exact hmz.1 e0
          have hz : (m == 0) = true := by simpa using e0
          clear e0 hmz
          rw [hz]
          go_wp2_with fail
          go_ret2
          exact ⟨rfl, below_step HBW.out HB.out⟩
        · obtain rfl : q = false := by
            rw [HQ2.out]
            cases h : sameB p x with
            | false => rfl
            | true => exact absurd (hmz.2 h) e0
          have hz : (m == 0) = false := by simpa using e0
          clear e0 hmz
          rw [hz]
          go_wp2_with fail
          go_ret2
          exact ⟨rfl, below_step HBW.out HB.out⟩
      · obtain rfl : q = false := by
          rw [← HQ.out, HG.out, List.getElem?_eq_none (by rw [HN.out]; omega)]
        have hd : decide (i0 < n) = false := by simpa using hn
        clear hn
        go_upto_region 8 with fail
        refine start_ (n := 16) (S := fun w' => Below wr.heap.size wr w') (ds := []) #[false, false, false, false, false, false, false, false, false, false, false, false, false, false, false, false] (by kernel_rfl) rfl rfl (below_drew (Below.refl _ _)) (fun hHeld => ?_)
        refine pure_ (i := 0) (N := some 35) (v := ?_) (a' := ?_) #[true, false, false, false, false, false, false, false, false, false, false, false, false, false, false, false] rfl rfl (by kernel_rfl) (fun _ _ _ h => h) (Or.inl ⟨by rfl, ?_⟩) ?_ ?_
        rotate_left
        · intro w'
          go_simp
          with_reducible rfl
        rotate_left
        · simp only [Act.put, List.setIfInBounds_toArray, List.set_cons_zero, List.set_cons_succ, i64_w, i32_w]
          rfl
        refine pure_ (i := 1) (N := some 36) (v := ?_) (a' := ?_) #[true, true, false, false, false, false, false, false, false, false, false, false, false, false, false, false] rfl rfl (by kernel_rfl) (fun _ _ _ h => h) (Or.inl ⟨by rfl, ?_⟩) ?_ ?_
        rotate_left
        · intro w'
          go_simp
          with_reducible rfl
        rotate_left
        · simp only [Act.put, List.setIfInBounds_toArray, List.set_cons_zero, List.set_cons_succ, i64_w, i32_w]
          rfl
        refine pure_ (i := 2) (N := some 37) (v := ?_) (a' := ?_) #[true, true, true, false, false, false, false, false, false, false, false, false, false, false, false, false] rfl rfl (by kernel_rfl) (fun _ _ _ h => h) (Or.inl ⟨by rfl, ?_⟩) ?_ ?_
        rotate_left
        · intro w'
          go_simp
          with_reducible rfl
        rotate_left
        · simp only [Act.put, List.setIfInBounds_toArray, List.set_cons_zero, List.set_cons_succ, i64_w, i32_w]
          rfl
        refine pure_ (i := 3) (N := some 38) (v := ?_) (a' := ?_) #[true, true, true, true, false, false, false, false, false, false, false, false, false, false, false, false] rfl rfl (by kernel_rfl) (fun _ _ _ h => h) (Or.inl ⟨by rfl, ?_⟩) ?_ ?_
        rotate_left
        · intro w'
          go_simp
          with_reducible rfl
        rotate_left
        · simp only [Act.put, List.setIfInBounds_toArray, List.set_cons_zero, List.set_cons_succ, i64_w, i32_w]
          rfl
        refine pure_ (i := 4) (N := some 39) (v := ?_) (a' := ?_) #[true, true, true, true, true, false, false, false, false, false, false, false, false, false, false, false] rfl rfl (by kernel_rfl) (fun _ _ _ h => h) (Or.inl ⟨by rfl, ?_⟩) ?_ ?_
        rotate_left
        · intro w'
          go_simp
          with_reducible rfl
        rotate_left
        · simp only [Act.put, List.setIfInBounds_toArray, List.set_cons_zero, List.set_cons_succ, i64_w, i32_w]
          rfl
        refine pure_ (i := 5) (N := some 40) (v := undef) (a' := ?_) #[true, true, true, true, true, true, false, false, false, false, false, false, false, false, false, false] rfl rfl (by kernel_rfl) (fun _ _ _ h => h) (Or.inr ⟨by rfl, rfl⟩) ?_ ?_
        rotate_left
        · simp only [Act.put, List.setIfInBounds_toArray, List.set_cons_zero, List.set_cons_succ, i64_w, i32_w]
          rfl
        refine pure_ (i := 6) (N := some 41) (v := undef) (a' := ?_) #[true, true, true, true, true, true, true, false, false, false, false, false, false, false, false, false] rfl rfl (by kernel_rfl) (fun _ _ _ h => h) (Or.inr ⟨by rfl, rfl⟩) ?_ ?_
        rotate_left
        · simp only [Act.put, List.setIfInBounds_toArray, List.set_cons_zero, List.set_cons_succ, i64_w, i32_w]
          rfl
        refine pure_ (i := 7) (N := some 42) (v := undef) (a' := ?_) #[true, true, true, true, true, true, true, true, false, false, false, false, false, false, false, false] rfl rfl (by kernel_rfl) (fun _ _ _ h => h) (Or.inr ⟨by rfl, rfl⟩) ?_ ?_
        rotate_left
        · simp only [Act.put, List.setIfInBounds_toArray, List.set_cons_zero, List.set_cons_succ, i64_w, i32_w]
          rfl
        refine pure_ (i := 8) (N := some 43) (v := undef) (a' := ?_) #[true, true, true, true, true, true, true, true, true, false, false, false, false, false, false, false] rfl rfl (by kernel_rfl) (fun _ _ _ h => h) (Or.inr ⟨by rfl, rfl⟩) ?_ ?_
        rotate_left
        · simp only [Act.put, List.setIfInBounds_toArray, List.set_cons_zero, List.set_cons_succ, i64_w, i32_w]
          rfl
        refine pure_ (i := 9) (N := some 44) (v := undef) (a' := ?_) #[true, true, true, true, true, true, true, true, true, true, false, false, false, false, false, false] rfl rfl (by kernel_rfl) (fun _ _ _ h => h) (Or.inr ⟨by rfl, rfl⟩) ?_ ?_
        rotate_left
        · simp only [Act.put, List.setIfInBounds_toArray, List.set_cons_zero, List.set_cons_succ, i64_w, i32_w]
          rfl
        refine pure_ (i := 10) (N := some 45) (v := undef) (a' := ?_) #[true, true, true, true, true, true, true, true, true, true, true, false, false, false, false, false] rfl rfl (by kernel_rfl) (fun _ _ _ h => h) (Or.inr ⟨by rfl, rfl⟩) ?_ ?_
        rotate_left
        · simp only [Act.put, List.setIfInBounds_toArray, List.set_cons_zero, List.set_cons_succ, i64_w, i32_w]
          rfl
        refine pure_ (i := 11) (N := some 46) (v := undef) (a' := ?_) #[true, true, true, true, true, true, true, true, true, true, true, true, false, false, false, false] rfl rfl (by kernel_rfl) (fun _ _ _ h => h) (Or.inr ⟨by rfl, rfl⟩) ?_ ?_
        rotate_left
        · simp only [Act.put, List.setIfInBounds_toArray, List.set_cons_zero, List.set_cons_succ, i64_w, i32_w]
          rfl
        refine pure_ (i := 12) (N := some 47) (v := undef) (a' := ?_) #[true, true, true, true, true, true, true, true, true, true, true, true, true, false, false, false] rfl rfl (by kernel_rfl) (fun _ _ _ h => h) (Or.inr ⟨by rfl, rfl⟩) ?_ ?_
        rotate_left
        · simp only [Act.put, List.setIfInBounds_toArray, List.set_cons_zero, List.set_cons_succ, i64_w, i32_w]
          rfl
        refine pure_ (i := 13) (N := some 48) (v := ?_) (a' := ?_) #[true, true, true, true, true, true, true, true, true, true, true, true, true, true, false, false] rfl rfl (by kernel_rfl) (fun _ _ _ h => h) (Or.inl ⟨by rfl, ?_⟩) ?_ ?_
        rotate_left
        · intro w'
          go_simp
          with_reducible rfl
        rotate_left
        · simp only [Act.put, List.setIfInBounds_toArray, List.set_cons_zero, List.set_cons_succ, i64_w, i32_w]
          rfl
        refine pure_ (i := 14) (N := some 6) (v := ?_) (a' := ?_) #[true, true, true, true, true, true, true, true, true, true, true, true, true, true, true, false] rfl rfl (by kernel_rfl) (fun _ _ _ h => h) (Or.inl ⟨by rfl, ?_⟩) ?_ ?_
        rotate_left
        · intro w'
          go_simp
          with_reducible rfl
        rotate_left
        · simp only [Act.put, List.setIfInBounds_toArray, List.set_cons_zero, List.set_cons_succ, i64_w, i32_w]
          rfl
        refine pure_ (i := 15) (N := some 7) (v := ?_) (a' := ?_) #[true, true, true, true, true, true, true, true, true, true, true, true, true, true, true, true] rfl rfl (by kernel_rfl) (fun _ _ _ h => h) (Or.inl ⟨by rfl, ?_⟩) ?_ ?_
        rotate_left
        · intro w'
          go_simp
          with_reducible rfl
        rotate_left
        · simp only [Act.put, List.setIfInBounds_toArray, List.set_cons_zero, List.set_cons_succ, i64_w, i32_w]
          rfl
        refine done_ (by kernel_rfl) ?_

        replace HB := Aside0.mk (below_step HB.out hHeld)
        clear hHeld
        go_wp2_with fail
        go_ret2
        exact ⟨rfl, below_step HBW.out HB.out⟩
end Go.Proofs.Ytpjfmilokadchaa.Se
