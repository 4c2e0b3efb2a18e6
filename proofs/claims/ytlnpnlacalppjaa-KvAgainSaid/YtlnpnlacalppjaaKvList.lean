/- A store's Do and List; calls on none. -/
import Derived.Test.YtlnpnlacalppjaaKvOps
import Derived.Test.YtlnpnlacalppjaaEx0
namespace Go.Proofs.Ytlnpnlacalppjaa.Kv
open Go Go.RowKit Go.Proofs.YtlnpnlacalppjaaW.PrintWords Go.Proofs.YtlnpnlacalppjaaW.PrintLast Go.Proofs.YtlnpnlacalppjaaW.PrintMore Go.Proofs.Ytlnpnlacalppjaa.Rw Go.Proofs.Ytlnpnlacalppjaa.Ex
set_option linter.unusedVariables false
set_option linter.unusedSimpArgs false
def chgOf (p : Int × Int) : S30 := ⟨p.1, 0, 0, p.2, false⟩
def doBad (cf ct cv : Int) (cd : Bool) : Bool := !(cf == 0) || !(ct == 0) || (cd && !(cv == 0))
def doL (room : Int) (L : KL) (ck cf ct cv : Int) (cd : Bool) : KL := if doBad cf ct cv cd = true then L else if cd = true then del L ck else putL room L ck cv
def doE (room : Int) (L : KL) (ck cf ct cv : Int) (cd : Bool) : Int := if doBad cf ct cv cd = true then 5 else if cd = true then (if (get L ck).isSome = true then 0 else 6) else (if mayPut room L ck = true then 0 else 3)
theorem OpPost.back {base b : Nat} {room : Int} {v v' : Value} {L' : KL} {x : Value} {w w1 w2 w3 : World} (hb : Below w.heap.size w w1) (hk : KvS w2 base b room v' L') (hc : Chg w1 w2 (SB b v)) (hh : Hat v v' w1.heap.size) (hb2 : Below w2.heap.size w2 w3) : OpPost base b room v L' x w (.returned x) w3 :=
  ⟨v', rfl, hk.below hb2, ((Chg.of_below hb).trans hc).trans (Chg.of_below hb2), hh.lower hb.size⟩
set_option maxHeartbeats 2000000 in
theorem do_ok (base b : Nat) (room : Int) (v : Value) (L : KL) (ck cf ct cv : Int) (cd : Bool) (w : World) (h : KvS w base b room v L) (hbs : base ≤ w.heap.size) (hk : In64 ck) (hx : In64 cv) :
    Calls Try.prog 16 #[.pointer (some ⟨b, 0, none⟩), .agg #[.int .i64 ck, .int .i64 cf, .int .i64 ct, .int .i64 cv, .bool cd]] w (OpPost base b room v (doL room L ck cf ct cv cd) (.int .i64 (doE room L ck cf ct cv cd)) w) := by
  have HK0 := Aside0.mk h
  have HKX := Aside0.mk (⟨hk, hx⟩ : In64 ck ∧ In64 cv)
  have HBS := Aside0.mk hbs
  obtain ⟨L2, HL2⟩ : ∃ y, Aside0 (doL room L ck cf ct cv cd = y) := ⟨_, ⟨rfl⟩⟩
  obtain ⟨E2, HE2⟩ : ∃ y, Aside0 (doE room L ck cf ct cv cd = y) := ⟨_, ⟨rfl⟩⟩
  rw [HL2.out, HE2.out]
  clear h hk hx hbs
  have hbA := below_alloc (Below.refl w.heap.size w) (.cells #[.int .i64 ck, .int .i64 cf, .int .i64 ct, .int .i64 cv, .bool cd] 30)
  have HBA := Aside0.mk hbA
  have HKA := Aside0.mk (HK0.out.below hbA)
  clear hbA
  by_cases hbad : doBad cf ct cv cd = true
  · obtain rfl : L = L2 := by rw [← HL2.out]; unfold doL; rw [if_pos hbad]
    obtain rfl : (5 : Int) = E2 := by rw [← HE2.out]; unfold doE; rw [if_pos hbad]
    have HPost : Aside0 (OpPost base b room v L (.int .i64 5) w (.returned (.int .i64 5)) (w.alloc (.cells #[.int .i64 ck, .int .i64 cf, .int .i64 ct, .int .i64 cv, .bool cd] 30))) := ⟨OpPost.back HBA.out HKA.out (Chg.refl _ _) (Hat.refl _ _) (Below.refl _ _)⟩
    unfold doBad at hbad
    by_cases h1 : cf = 0
    · have h1b : (cf == 0) = true := by simpa using h1
      have h1c : (cf != 0) = false := by simpa using h1
      rw [h1b] at hbad
      clear h1
      by_cases h2 : ct = 0
      · have h2b : (ct == 0) = true := by simpa using h2
        have h2c : (ct != 0) = false := by simpa using h2
        rw [h2b] at hbad
        simp only [Bool.not_true, Bool.false_or, Bool.and_eq_true, Bool.not_eq_true'] at hbad
        obtain ⟨rfl, h3⟩ := hbad
        have h3c : (cv != 0) = true := by simpa using h3
        clear h2
        go_enter Try.func16, Try.ntmps16
        go_wp2
        go_ret
        exact HPost.out
      · have h2b : (ct == 0) = false := by simpa using h2
        have h2c : (ct != 0) = true := by simpa using h2
        clear h2 hbad
        go_enter Try.func16, Try.ntmps16
        go_wp2
        go_ret
        exact HPost.out
    · have h1b : (cf == 0) = false := by simpa using h1
      have h1c : (cf != 0) = true := by simpa using h1
      clear h1 hbad
      go_enter Try.func16, Try.ntmps16
      go_wp2
      go_ret
      exact HPost.out
  · have hq := hbad
    unfold doBad at hq
    simp only [Bool.or_eq_true, Bool.and_eq_true, Bool.not_eq_true', beq_eq_false_iff_ne, not_or, not_and, ne_eq, Decidable.not_not] at hq
    obtain ⟨⟨rfl, rfl⟩, hq⟩ := hq
    cases cd with
    | true =>
      obtain rfl := hq rfl
      obtain rfl : del L ck = L2 := by rw [← HL2.out]; rfl
      have HX : Aside0 ((if (get L ck).isSome = true then Value.tuple #[chgV ck 0 true, .int .i64 0] else .tuple #[chgV 0 0 false, .int .i64 6]) = .tuple #[if (get L ck).isSome = true then chgV ck 0 true else chgV 0 0 false, .int .i64 E2]) := ⟨by rw [← HE2.out]; unfold doE; split <;> simp_all [doBad]⟩
      obtain ⟨cx, HCX⟩ : ∃ x : Int × Int × Bool, Aside0 ((if (get L ck).isSome = true then chgV ck 0 true else chgV 0 0 false) = .agg #[.int .i64 x.1, .int .i64 0, .int .i64 0, .int .i64 x.2.1, .bool x.2.2]) := by
        by_cases hs : (get L ck).isSome = true
        · exact ⟨(ck, 0, true), ⟨by rw [if_pos hs]; rfl⟩⟩
        · exact ⟨(0, 0, false), ⟨by rw [if_neg hs]; rfl⟩⟩
      rw [HCX.out] at HX
      obtain ⟨x0, x3, x4⟩ := cx
      simp only at HX
      obtain ⟨L3, HL3⟩ : ∃ y, Aside0 (del L ck = y) := ⟨_, ⟨rfl⟩⟩
      rw [HL3.out]
      have HD := Aside0.mk (del_ok base b room v L ck _ HKA.out (Nat.le_trans HBS.out HBA.out.size))
      rw [HX.out, HL3.out] at HD
      clear hbad hq
      go_enter Try.func16, Try.ntmps16
      go_wp2_with fail
      refine HD.out.mono ?_
      rintro e w2 ⟨v', rfl, hk_, hc_, hh_⟩
      have HPost : Aside0 (∀ w3, Below w2.heap.size w2 w3 → OpPost base b room v L3 (.int .i64 E2) w (.returned (.int .i64 E2)) w3) := ⟨fun w3 hb3 => OpPost.back HBA.out hk_ hc_ hh_ hb3⟩
      clear hk_ hc_ hh_
      go_wp2_with fail
      go_ret
      exact HPost.out _ (by repeat (first | exact Below.refl _ _ | apply below_alloc | (refine below_set ?_ (Nat.le_refl _))))
    | false =>
      obtain rfl : putL room L ck cv = L2 := by rw [← HL2.out]; rfl
      have HX : Aside0 ((if mayPut room L ck = true then Value.tuple #[chgV ck cv false, .int .i64 0] else .tuple #[chgV 0 0 false, .int .i64 3]) = .tuple #[if mayPut room L ck = true then chgV ck cv false else chgV 0 0 false, .int .i64 E2]) := ⟨by rw [← HE2.out]; unfold doE; split <;> simp_all [doBad]⟩
      obtain ⟨cx, HCX⟩ : ∃ x : Int × Int × Bool, Aside0 ((if mayPut room L ck = true then chgV ck cv false else chgV 0 0 false) = .agg #[.int .i64 x.1, .int .i64 0, .int .i64 0, .int .i64 x.2.1, .bool x.2.2]) := by
        by_cases hs : mayPut room L ck = true
        · exact ⟨(ck, cv, false), ⟨by rw [if_pos hs]; rfl⟩⟩
        · exact ⟨(0, 0, false), ⟨by rw [if_neg hs]; rfl⟩⟩
      rw [HCX.out] at HX
      obtain ⟨x0, x3, x4⟩ := cx
      simp only at HX
      obtain ⟨L3, HL3⟩ : ∃ y, Aside0 (putL room L ck cv = y) := ⟨_, ⟨rfl⟩⟩
      rw [HL3.out]
      have HD := Aside0.mk (put_ok base b room v L ck cv _ HKA.out (Nat.le_trans HBS.out HBA.out.size) HKX.out.1 HKX.out.2)
      rw [HX.out, HL3.out] at HD
      clear hbad hq
      go_enter Try.func16, Try.ntmps16
      go_wp2_with fail
      refine HD.out.mono ?_
      rintro e w2 ⟨v', rfl, hk_, hc_, hh_⟩
      have HPost : Aside0 (∀ w3, Below w2.heap.size w2 w3 → OpPost base b room v L3 (.int .i64 E2) w (.returned (.int .i64 E2)) w3) := ⟨fun w3 hb3 => OpPost.back HBA.out hk_ hc_ hh_ hb3⟩
      clear hk_ hc_ hh_
      go_wp2_with fail
      go_ret
      exact HPost.out _ (by repeat (first | exact Below.refl _ _ | apply below_alloc | (refine below_set ?_ (Nat.le_refl _))))
theorem take_chg {L : KL} {i : Nat} {p : Int × Int} (h : L[i]? = some p) : (L.take (i + 1)).map chgOf = (L.take i).map chgOf ++ [chgOf p] := by
  obtain ⟨a, rfl⟩ := List.getElem?_eq_some_iff.1 h
  rw [List.take_succ_eq_append_getElem a, List.map_append]
  rfl
set_option maxHeartbeats 2000000 in
theorem list_ok (base b : Nat) (room : Int) (v : Value) (L : KL) (w : World) (h : KvS w base b room v L) :
    Calls Try.prog 13 #[.pointer (some ⟨b, 0, none⟩)] w fun e w' => ∃ v0, e = .returned v0 ∧ Kd.R k30 30 w' w.heap.size (fun _ => True) v0 (L.map chgOf) ∧ Below w.heap.size w w' := by
  have HK := Aside0.mk h
  have HB := Aside0.mk (Below.refl w.heap.size w)
  obtain ⟨A, c, hv, hnc, hcm⟩ := slice_of h.row
  obtain ⟨_, x3⟩ := cells_of h
  obtain ⟨n, HN⟩ : ∃ n, Aside0 (L.length = n) := ⟨_, ⟨rfl⟩⟩
  have hn : n ≤ 1024 := by rw [← HN.out]; exact h.len
  rw [HN.out] at hv hnc
  subst hv
  clear h hcm
  go_enter Try.func13, Try.ntmps13
  go_wp2_with fail
  clear x3
  go_loopw [3, 13] (fun v3 v13 wr => ∃ i : Nat, i ≤ n ∧ v13 = .int .i64 (i : Int) ∧ Aside0 (Kd.R k30 30 wr w.heap.size (fun _ => True) v3 ((L.take i).map chgOf)) ∧ Aside0 (Below w.heap.size w wr)) (fun _ v13 _ => n - (intOf v13).toNat)
  case atStart => exact ⟨0, by omega, rfl, ⟨Kd.R_nil _ _ _ _ _⟩, HB⟩
  case round =>
    clear HB
    obtain ⟨i, hi, rfl, HO, HB⟩ := hrel
    by_cases hlt : i < n
    · have h1 : decide ((i : Int) < (n : Int)) = true := by simp; omega
      have h1b : decide (i < n) = true := by simp; omega
      obtain ⟨p, hp⟩ : ∃ p, L[i]? = some p := ⟨_, List.getElem?_eq_getElem (by rw [HN.out]; omega)⟩
      obtain ⟨g, hA, hc⟩ := own_cells (A := A) (c := c) HK.out.row (by rw [HN.out]) hp
      obtain ⟨x1, x2⟩ := hc wr HB.out
      have HT := Aside0.mk (take_chg hp)
      obtain ⟨ps, HPS⟩ : ∃ ps, Aside0 ((L.take i).map chgOf = ps) := ⟨_, ⟨rfl⟩⟩
      rw [HPS.out] at HT HO
      have HPL : Aside0 (ps.length = i) := ⟨by rw [← HPS.out, List.length_map, List.length_take, HN.out]; omega⟩
      obtain ⟨py, pv⟩ := p
      simp only at x1 x2
      subst hA
      clear hp hc
      go_upto_region 6 with fail
      clear x1 x2
      have BP := Aside0.mk (heap_alloc_new wr (.cells #[.int .i64 py, .int .i64 pv] 65))
      have hb_ := below_alloc (Below.refl wr.heap.size wr) (.cells #[.int .i64 py, .int .i64 pv] 65)
      have hs_ : (wr.alloc (.cells #[.int .i64 py, .int .i64 pv] 65)).heap.size = wr.heap.size + 1 := by simp
      generalize wr.alloc (.cells #[.int .i64 py, .int .i64 pv] 65) = wr2 at BP hb_ hs_ ⊢
      replace HB := Aside0.mk (below_step HB.out hb_)
      replace HO := Aside0.mk (Kd.R_below HO.out hb_)
      clear hb_

      clear hs_
      have x1 := (blk_cell BP.out 0).trans (rfl : _ = some (.int .i64 py : Value))
      have x2 := (blk_cell BP.out 1).trans (rfl : _ = some (.int .i64 pv : Value))
      go_wp2_with (((with_reducible refine gate_builtin (b := .append) (xs := #[.tmp 17, .tmp 23]) rfl ?_); at_builtin; refine Kd.R_append k30 (w0 := w) w.heap.size rfl (.tmp 17) (.tmp 23) 34 30 (.agg #[(.int .i64 0), (.int .i64 0), (.int .i64 0), (.int .i64 0), (.bool false)]) 40 rfl Try.underlying34 info30 rfl (by decide) (by omega) u3 ps (chgOf (py, pv)) [.int .i64 py, .int .i64 0, .int .i64 0, .int .i64 pv, .bool false] (fun _ => True) (fun _ => False) rfl rfl ?aP (fun _ hk => hk.elim) (fun _ _ => trivial) ?aO ?aB ?aS ?aL ?_; (case aP => exact k30_mkM _ _ _ (chgOf (py, pv))); (case aB => exact (by repeat (first | (with_reducible first | exact HB.out | apply below_alloc | apply pw_below_drewN | apply below_drew1) | exact HB.out))); (case aO => exact (by (with_reducible repeat (first | apply Kd.R_alloc | apply Kd.R_drewN | apply Kd.R_drew)); exact HO.out)); (case aS => exact (below_size (by repeat (first | (with_reducible first | exact HB.out | apply below_alloc | apply pw_below_drewN | apply below_drew1) | exact HB.out)))); (case aL => rw [HPL.out]; omega); intro v31 w31 ho_ hb hg hat; have n0_ := Aside0.mk (ho_); clear HO; have HO := n0_; clear n0_; have HB3 := Aside0.mk hb; clear ho_ hb hg hat))
      go_roundw
      case rel => exact ⟨i + 1, by omega, by go_num, ⟨by rw [HT.out]; exact HO.out⟩, HB3⟩
      case measure => simp [intOf]; omega
    · obtain rfl : i = n := by omega
      have HO2 : Aside0 (Kd.R k30 30 wr w.heap.size (fun _ => True) u3 (L.map chgOf)) := ⟨by have := HO.out; rwa [← HN.out, List.take_length] at this⟩
      go_wp2
      go_ret
      exact ⟨_, rfl, HO2.out, HB.out⟩
end Go.Proofs.Ytlnpnlacalppjaa.Kv
