/- The statement KvOrder. -/
import Derived.Test.YtlnpnlacalppjaaKvAgainW
namespace Go.Proofs.Ytlnpnlacalppjaa.Kv
open Go Go.RowKit Go.Proofs.YtlnpnlacalppjaaW.PrintWords Go.Proofs.YtlnpnlacalppjaaW.PrintLast Go.Proofs.YtlnpnlacalppjaaW.PrintMore Go.Proofs.Ytlnpnlacalppjaa.Rw Go.Proofs.Ytlnpnlacalppjaa.Ex
set_option linter.unusedVariables false
set_option linter.unusedSimpArgs false
section
variable {w0 w w1 : World} {b1 b2 g : Nat} {L1 L2 : KL} {cs cs' : Array Value}
theorem St2.opK {F : FuncId} {args : Array Value} {x : Value} {L' : KL} (h : St2 w0 w b1 1024 L1 b2 1024 L2) (hc : ∀ v, KvS w w0.heap.size b1 1024 v L1 → Calls Try.prog F args w (OpPost w0.heap.size b1 1024 v L' x w)) : Calls Try.prog F args w fun e w' => e = .returned x ∧ St2 w0 w' b1 1024 L' b2 1024 L2 ∧ KeepT w w' := by
  obtain ⟨⟨v1, v2, k1, k2, ha⟩, hl⟩ := h
  refine (hc v1 k1).mono ?_
  rintro e w' ⟨v', rfl, h1, h2, h3⟩
  exact ⟨rfl, ⟨⟨v', v2, h1, k2.other h2 ha.symm, ha.hat h3 fun k hk => (k2.sb k hk).2⟩, Chg.below hl h2 hl.size fun k hk' => (k1.sb k hk').1⟩, KeepT.of k1 h2⟩
theorem St2.put1 (h : St2 w0 w b1 1024 L1 b2 1024 L2) (x y : Int) (hx : In64 x) (hy : In64 y) (hm : mayPut 1024 L1 x = true) : Calls Try.prog 11 #[.pointer (some ⟨b1, 0, none⟩), .int .i64 x, .int .i64 y] w fun e w' => e = .returned (.tuple #[.agg #[.int .i64 x, .int .i64 0, .int .i64 0, .int .i64 y, .bool false], .int .i64 0]) ∧ St2 w0 w' b1 1024 (Kv.put L1 x y) b2 1024 L2 ∧ KeepT w w' :=
  h.opK fun v hv => by
    have := put_ok w0.heap.size b1 1024 v L1 x y w hv h.bl.size hx hy
    rw [if_pos hm] at this
    unfold putL at this
    rw [if_pos hm] at this
    exact this
structure S2c (w0 w : World) (b1 : Nat) (L1 : KL) (b2 : Nat) (L2 : KL) (g : Nat) (cs : Array Value) : Prop where
  s : St2 w0 w b1 1024 L1 b2 1024 L2
  r : w.heap[g]? = some (.cells cs 30 (0, 0))
  l : w0.heap.size ≤ g
theorem S2c.put (h : S2c w0 w b1 L1 b2 L2 g cs) (j : Nat) (u : Value) (e : cs.setIfInBounds j u = cs') : S2c w0 (w.setCell ⟨g, j, none⟩ u) b1 L1 b2 L2 g cs' := by
  obtain ⟨⟨⟨v1, v2, k1, k2, ha⟩, hl⟩, hr, hg⟩ := h
  exact ⟨⟨⟨v1, v2, k1.far hr (by decide) (by decide) j u, k2.far hr (by decide) (by decide) j u, ha⟩, below_set hl hg⟩, blk_put hr j u e, hg⟩
theorem S2c.put1 (h : S2c w0 w b1 L1 b2 L2 g cs) (x y : Int) (hx : In64 x) (hy : In64 y) (hm : mayPut 1024 L1 x = true) : Calls Try.prog 11 #[.pointer (some ⟨b1, 0, none⟩), .int .i64 x, .int .i64 y] w fun e w' => e = .returned (.tuple #[.agg #[.int .i64 x, .int .i64 0, .int .i64 0, .int .i64 y, .bool false], .int .i64 0]) ∧ S2c w0 w' b1 (Kv.put L1 x y) b2 L2 g cs :=
  (h.s.put1 x y hx hy hm).mono fun e w' hh => ⟨hh.1, hh.2.1, hh.2.2.blk h.r (by decide) (by decide), h.l⟩
theorem St2.put1e (h : St2 w0 w b1 1024 L1 b2 1024 L2) (x y x' y' : Int) (hx : In64 x) (hy : In64 y) (hm : mayPut 1024 L1 x = true) (e1 : x' = x) (e2 : y' = y) : Calls Try.prog 11 #[.pointer (some ⟨b1, 0, none⟩), .int .i64 x', .int .i64 y'] w fun e w' => e = .returned (.tuple #[.agg #[.int .i64 x, .int .i64 0, .int .i64 0, .int .i64 y, .bool false], .int .i64 0]) ∧ St2 w0 w' b1 1024 (Kv.put L1 x y) b2 1024 L2 ∧ KeepT w w' := by
  subst e1
  subst e2
  exact h.put1 _ _ hx hy hm
theorem S2c.put1e (h : S2c w0 w b1 L1 b2 L2 g cs) (x y x' y' : Int) (hx : In64 x) (hy : In64 y) (hm : mayPut 1024 L1 x = true) (e1 : x' = x) (e2 : y' = y) : Calls Try.prog 11 #[.pointer (some ⟨b1, 0, none⟩), .int .i64 x', .int .i64 y'] w fun e w' => e = .returned (.tuple #[.agg #[.int .i64 x, .int .i64 0, .int .i64 0, .int .i64 y, .bool false], .int .i64 0]) ∧ S2c w0 w' b1 (Kv.put L1 x y) b2 L2 g cs := by
  subst e1
  subst e2
  exact h.put1 _ _ hx hy hm
end
theorem C_take {k : IntKind} {w : World} {A : Option Addr} {n m : Nat} {l : List Int} (h : Kd.C (Kd.int k) w A n l) (hm : m ≤ n) : Kd.C (Kd.int k) w A m (l.take m) := by
  refine ⟨by rw [List.length_take, h.1]; omega, by have := h.2.1; omega, fun h0 => ?_⟩
  obtain ⟨ad, e, hc⟩ := h.2.2 (by omega)
  refine ⟨ad, e, fun j p hj => hc j p ?_⟩
  rw [List.getElem?_take] at hj
  split at hj
  · exact hj
  · cases hj
theorem at_i16 {w : World} {A : Option Addr} {n : Nat} {l : List Int} (h : Kd.C (Kd.int .i16) w A n l) {i : Nat} {x : Int} (hx : l[i]? = some x) : ∃ ad, A = some ad ∧ w.cell? (ad.add i) = some (.int .i16 x) := by
  have hlt := (List.getElem?_eq_some_iff.1 hx).1
  obtain ⟨ad, e, hy⟩ := Kd.at_int h (i : Int) (by omega) (by have := h.1; omega)
  refine ⟨ad, e, ?_⟩
  have e2 : rd l (i : Int) = x := by unfold rd; rw [Int.toNat_natCast, List.getD_eq_getElem?_getD, hx]; rfl
  rw [e2] at hy
  exact hy
theorem drop_cons_of {l : List Int} {j : Nat} {x : Int} (h : l[j]? = some x) : l.drop j = x :: l.drop (j + 1) := by
  obtain ⟨a, rfl⟩ := List.getElem?_eq_some_iff.1 h
  exact List.drop_eq_getElem_cons a
theorem take_snoc_of {l : List Int} {j : Nat} {x : Int} (h : l[j]? = some x) : l.take (j + 1) = l.take j ++ [x] := by
  obtain ⟨a, rfl⟩ := List.getElem?_eq_some_iff.1 h
  exact List.take_succ_eq_append_getElem a
/-- Behind the cut to 300: the loop. -/
def LoopPost (w : World) (e : Ending) (w' : World) : Prop := e = .returned (.bool true) ∧ Below w.heap.size w w'
set_option maxHeartbeats 4000000 in
set_option maxRecDepth 100000 in
theorem order_ok (A0 : Option Addr) (c0 : Nat) (l0 : List Int) (val : Int) (w : World) (hr0 : Kd.C (Kd.int .i16) w A0 l0.length l0) (hc0 : l0.length ≤ c0) (hi : ∀ x ∈ l0, -32768 ≤ x ∧ x ≤ 32767) (hv : In64 val) :
    Calls Try.prog 3 #[.slice A0 l0.length c0, .int .i64 val] w fun e w' => e = .returned (.bool true) ∧ Below w.heap.size w w' := by
  obtain ⟨n, hn⟩ : ∃ n, min l0.length 300 = n := ⟨_, rfl⟩
  obtain ⟨l, hl⟩ : ∃ l, l0.take n = l := ⟨_, rfl⟩
  have HC : Aside0 (Kd.C (Kd.int .i16) w A0 n l) := ⟨by rw [← hl]; exact C_take hr0 (by omega)⟩
  have HL : Aside0 (l.length = n) := ⟨by rw [← hl, List.length_take]; omega⟩
  have HI : Aside0 (∀ x ∈ l, -32768 ≤ x ∧ x ≤ 32767) := ⟨fun x hx => hi x (by rw [← hl] at hx; exact List.mem_of_mem_take hx)⟩
  have hn3 : n ≤ 300 := by omega
  have hcn : n ≤ c0 := by omega
  have HB := Aside0.mk (Below.refl w.heap.size w)
  have HV := Aside0.mk hv
  have HMAIN : Aside0 True := ⟨trivial⟩
  obtain ⟨n0, HN0⟩ : ∃ n0, Aside0 (l0.length = n0) := ⟨_, ⟨rfl⟩⟩
  rw [HN0.out] at hn hc0 ⊢
  have HNN := Aside0.mk hn
  clear hr0 hi hv hl hn
  go_enter Try.func3, Try.ntmps3
  go_wp2_with fail
  refine (shown_ok _).mono ?_
  rintro e w1 ⟨rfl, hb_⟩
  replace HB := Aside0.mk (below_step HB.out hb_)
  clear hb_
  go_wp2_with fail
  refine (new1 1024 w _ HB.out (by omega) (by omega)).mono ?_
  rintro e w2 ⟨b1, rfl, hs_, _⟩
  have HS := Aside0.mk hs_
  clear hs_ HB
  go_wp2_with fail
  refine (new2 1024 w _ HS.out (by omega) (by omega)).mono ?_
  rintro e w3 ⟨b2, rfl, hs_⟩
  replace HS := Aside0.mk hs_
  clear hs_
  obtain ⟨bb, hbb⟩ : ∃ bb, decide ((300 : Int) < (n0 : Int)) = bb := ⟨_, rfl⟩
  go_upto_if 43 with fail
  go_cut [10] (fun v10 wc => v10 = .slice A0 n c0 ∧ wc = w3)
  case first =>
    by_cases hgt : 300 < n0
    · obtain rfl : bb = true := by rw [← hbb]; simp; omega
      have h1b : decide (300 < n0) = true := by simp; omega
      have h2 : (300 : Int) ≤ (c0 : Int) := by omega
      have HN3 : Aside0 (n = 300) := ⟨by have := HNN.out; omega⟩
      go_wp2_with fail
      go_meet
      case rel => exact ⟨by rw [HN3.out], rfl⟩
    · obtain rfl : bb = false := by rw [← hbb]; simp; omega
      have h1b : decide (300 < n0) = false := by simp; omega
      have HN3 : Aside0 (n = n0) := ⟨by have := HNN.out; omega⟩
      go_wp2_with fail
      go_meet
      case rel => exact ⟨by rw [HN3.out], rfl⟩
  case rest =>
  obtain ⟨rfl, rfl⟩ := hcut
  clear HNN HN0 hc0 hbb
  go_wp2_with fail
  go_loopw [11] (fun v11 wr => ∃ (i : Nat) (L1 L2 : KL), i ≤ n ∧ v11 = .int .i64 (i : Int) ∧ Aside0 (OrdInv (fun k => wrap64 (val + k)) (l.take i) L1) ∧ Aside0 (OrdInv (fun k => wrap64 (val + k)) (l.drop (n - i)) L2) ∧ Aside0 (St2 w wr b1 1024 L1 b2 1024 L2)) (fun v11 _ => n - (intOf v11).toNat)
  case atStart => exact ⟨0, [], [], by omega, rfl, ⟨by rw [List.take_zero]; exact OrdInv.start _⟩, ⟨by rw [Nat.sub_zero, List.drop_of_length_le (by rw [HL.out]; omega)]; exact OrdInv.start _⟩, HS⟩
  case round =>
    clear HS
    obtain ⟨i, L1, L2, hi, rfl, HI1, HI2, HS⟩ := hrel
    by_cases hlt : i < n
    · have h1 : decide ((i : Int) < (n : Int)) = true := by simp; omega
      have h1b : decide (i < n) = true := by simp; omega
      obtain ⟨x, hx⟩ : ∃ x, l[i]? = some x := ⟨_, List.getElem?_eq_getElem (by rw [HL.out]; omega)⟩
      obtain ⟨x2, hx2⟩ : ∃ x, l[n - 1 - i]? = some x := ⟨_, List.getElem?_eq_getElem (by rw [HL.out]; omega)⟩
      obtain ⟨ad, rfl, _⟩ := at_i16 HC.out hx
      have HCX := Aside0.mk (show ∀ W : World, Below w.heap.size w W → W.cell? (ad.add i) = some (.int .i16 x) from fun W hW => by
        obtain ⟨ad2, e2, h⟩ := at_i16 (Kd.C_below HC.out hW) hx
        injection e2 with e2
        rw [e2]
        exact h)
      obtain ⟨ad2, e2, cx2⟩ := at_i16 (Kd.C_below HC.out HS.out.bl) hx2
      injection e2 with e2
      subst e2
      have bx := HI.out x (List.mem_of_getElem? hx)
      have bx2 := HI.out x2 (List.mem_of_getElem? hx2)
      obtain ⟨y, HY⟩ : ∃ y, Aside0 (wrap64 (val + x) = y) := ⟨_, ⟨rfl⟩⟩
      obtain ⟨y2, HY2⟩ : ∃ y, Aside0 (wrap64 (val + x2) = y) := ⟨_, ⟨rfl⟩⟩
      have HXI : Aside0 (In64 x ∧ In64 y) := ⟨⟨by omega, by omega⟩, by rw [← HY.out]; unfold wrap64 In64; omega⟩
      have HX2 : Aside0 (In64 x2 ∧ In64 y2) := ⟨⟨by omega, by omega⟩, by rw [← HY2.out]; unfold wrap64 In64; omega⟩
      have hl1 : L1.length ≤ 300 := by have := HI1.out.len; rw [List.length_take, HL.out] at this; omega
      have hl2 : L2.length ≤ 300 := by have := HI2.out.len; rw [List.length_drop, HL.out] at this; omega
      have HM : Aside0 (mayPut 1024 L1 x = true) := ⟨may_small (by omega) x⟩
      have HM2 : Aside0 (mayPut 1024 L2 x2 = true) := ⟨may_small (by omega) x2⟩
      have HN1 : Aside0 (OrdInv (fun k => wrap64 (val + k)) (l.take (i + 1)) (put L1 x y)) := ⟨by rw [take_snoc_of hx, ← HY.out]; exact HI1.out.snoc x⟩
      have HN2 : Aside0 (OrdInv (fun k => wrap64 (val + k)) (l.drop (n - (i + 1))) (put L2 x2 y2)) := ⟨by
        rw [show n - (i + 1) = n - 1 - i by omega, drop_cons_of hx2, show n - 1 - i + 1 = n - i by omega, ← HY2.out]
        exact HI2.out.cons x2⟩
      have hw1 : IntKind.i64.wrap ((n : Int) - 1) = (n : Int) - 1 := by rw [IntKind.wrap_i64]; omega
      have hw2 : IntKind.i64.wrap ((n : Int) - 1 - (i : Int)) = ((n - 1 - i : Nat) : Int) := by rw [IntKind.wrap_i64]; omega
      have hw3 : (n : Int) - 1 - (i : Int) = ((n - 1 - i : Nat) : Int) := by omega
      have hw4 : IntKind.i64.wrap (val + x) = y := by rw [IntKind.wrap_i64, ← HY.out]; unfold wrap64; rfl
      have hw5 : IntKind.i64.wrap (val + x2) = y2 := by rw [IntKind.wrap_i64, ← HY2.out]; unfold wrap64; rfl
      have hw6 : wrap64 (val + x) = y := HY.out
      have hw7 : wrap64 (val + x2) = y2 := HY2.out
      have hw8 : wrap64 x = x := by unfold wrap64; omega
      have hw9 : wrap64 x2 = x2 := by unfold wrap64; omega
      have hj : n - 1 - i < n := by omega
      obtain ⟨j, HJ⟩ : ∃ j, Aside0 (n - 1 - i = j) := ⟨_, ⟨rfl⟩⟩
      rw [HJ.out] at hw2 hw3 hj cx2
      have hij : (i : Int) < (n : Int) := by omega
      have hjj : (j : Int) < (n : Int) := by omega
      have HW8 := Aside0.mk hw8
      have HW6 : Aside0 (wrap64 (val + wrap64 x) = y) := ⟨by rw [hw8]; exact hw6⟩
      clear hx hx2 hl1 hl2 bx bx2
      go_upto_region 13 with fail
      clear cx2 hw8 hw6 hw4
      refine start_ (n := 20) (S := fun w' => Below w.heap.size w w') (ds := []) #[false, false, false, false, false, false, false, false, false, false, false, false, false, false, false, false, false, false, false, false] (by kernel_rfl) rfl rfl (below_drew HS.out.bl) (fun hHeld => ?_)
      refine pure_ (i := 0) (N := some 61) (v := ?_) (a' := ?_) #[true, false, false, false, false, false, false, false, false, false, false, false, false, false, false, false, false, false, false, false] rfl rfl (by kernel_rfl) (fun _ _ _ h => h) (Or.inl ⟨by rfl, ?_⟩) ?_ ?_
      rotate_left
      · intro w'
        go_simp
        with_reducible rfl
      rotate_left
      · simp only [Act.put, List.setIfInBounds_toArray, List.set_cons_zero, List.set_cons_succ, i64_w, i32_w]
        rfl
      refine pure_ (i := 1) (N := some 62) (v := ?_) (a' := ?_) #[true, true, false, false, false, false, false, false, false, false, false, false, false, false, false, false, false, false, false, false] rfl rfl (by kernel_rfl) (fun _ _ _ h => h) (Or.inl ⟨by rfl, ?_⟩) ?_ ?_
      rotate_left
      · intro w'
        go_simp
        with_reducible rfl
      rotate_left
      · simp only [Act.put, List.setIfInBounds_toArray, List.set_cons_zero, List.set_cons_succ, i64_w, i32_w]
        rfl
      refine pure_ (i := 2) (N := some 63) (v := ?_) (a' := ?_) #[true, true, true, false, false, false, false, false, false, false, false, false, false, false, false, false, false, false, false, false] rfl rfl (by kernel_rfl) (fun _ _ _ h => h) (Or.inl ⟨by rfl, ?_⟩) ?_ ?_
      rotate_left
      · intro w'
        go_simp
        with_reducible rfl
      rotate_left
      · simp only [Act.put, List.setIfInBounds_toArray, List.set_cons_zero, List.set_cons_succ, i64_w, i32_w]
        rfl
      refine pure_ (i := 3) (N := some 64) (v := ?_) (a' := ?_) #[true, true, true, true, false, false, false, false, false, false, false, false, false, false, false, false, false, false, false, false] rfl rfl (by kernel_rfl) (fun _ _ _ h => h) (Or.inl ⟨by rfl, ?_⟩) ?_ ?_
      rotate_left
      · intro w'
        go_simp
        with_reducible rfl
      rotate_left
      · simp only [Act.put, List.setIfInBounds_toArray, List.set_cons_zero, List.set_cons_succ, i64_w, i32_w]
        rfl
      refine pure_ (i := 6) (N := some 67) (v := ?_) (a' := ?_) #[true, true, true, true, false, false, true, false, false, false, false, false, false, false, false, false, false, false, false, false] rfl rfl (by kernel_rfl) (fun _ _ _ h => h) (Or.inl ⟨by rfl, ?_⟩) ?_ ?_
      rotate_left
      · intro w'
        go_simp
        with_reducible rfl
      rotate_left
      · simp only [Act.put, List.setIfInBounds_toArray, List.set_cons_zero, List.set_cons_succ, i64_w, i32_w]
        rfl
      refine pure_ (i := 7) (N := some 68) (v := ?_) (a' := ?_) #[true, true, true, true, false, false, true, true, false, false, false, false, false, false, false, false, false, false, false, false] rfl rfl (by kernel_rfl) (fun _ _ _ h => h) (Or.inl ⟨by rfl, ?_⟩) ?_ ?_
      rotate_left
      · intro w'
        go_simp
        with_reducible rfl
      rotate_left
      · simp only [Act.put, List.setIfInBounds_toArray, List.set_cons_zero, List.set_cons_succ, i64_w, i32_w]
        rfl
      refine pure_ (i := 8) (N := some 69) (v := ?_) (a' := ?_) #[true, true, true, true, false, false, true, true, true, false, false, false, false, false, false, false, false, false, false, false] rfl rfl (by kernel_rfl) (fun _ _ _ h => h) (Or.inl ⟨by rfl, ?_⟩) ?_ ?_
      rotate_left
      · intro w'
        go_simp
        with_reducible rfl
      rotate_left
      · simp only [Act.put, List.setIfInBounds_toArray, List.set_cons_zero, List.set_cons_succ, i64_w, i32_w]
        rfl
      refine pure_ (i := 9) (N := some 70) (v := ?_) (a' := ?_) #[true, true, true, true, false, false, true, true, true, true, false, false, false, false, false, false, false, false, false, false] rfl rfl (by kernel_rfl) (fun _ _ _ h => h) (Or.inl ⟨by rfl, ?_⟩) ?_ ?_
      rotate_left
      · intro w'
        go_simp
        with_reducible rfl
      rotate_left
      · simp only [Act.put, List.setIfInBounds_toArray, List.set_cons_zero, List.set_cons_succ, i64_w, i32_w]
        rfl
      refine take_ (i := 4) (N := some 65) (v := ?_) (a' := ?_) #[true, true, true, true, true, false, true, true, true, true, false, false, false, false, false, false, false, false, false, false] rfl rfl (by kernel_rfl) (fun _ _ _ h => h) (Or.inl ⟨by rfl, ?_⟩) hHeld ?_ ?_
      rotate_left
      · intro w' hS
        have c_ := (HCX.out _ hS)
        go_simp
        with_reducible rfl
      rotate_left
      · simp only [Act.put, List.setIfInBounds_toArray, List.set_cons_zero, List.set_cons_succ, i64_w, i32_w]
        rfl
      refine pure_ (i := 5) (N := some 66) (v := ?_) (a' := ?_) #[true, true, true, true, true, true, true, true, true, true, false, false, false, false, false, false, false, false, false, false] rfl rfl (by kernel_rfl) (fun _ _ _ h => h) (Or.inl ⟨by rfl, ?_⟩) ?_ ?_
      rotate_left
      · intro w'
        go_simp
        with_reducible rfl
      rotate_left
      · simp only [Act.put, List.setIfInBounds_toArray, List.set_cons_zero, List.set_cons_succ, i64_w, i32_w]
        rfl
      refine take_ (i := 10) (N := some 71) (v := ?_) (a' := ?_) #[true, true, true, true, true, true, true, true, true, true, true, false, false, false, false, false, false, false, false, false] rfl rfl (by kernel_rfl) (fun _ _ _ h => h) (Or.inl ⟨by rfl, ?_⟩) hHeld ?_ ?_
      rotate_left
      · intro w' hS
        have c_ := (HCX.out _ hS)
        go_simp
        with_reducible rfl
      rotate_left
      · simp only [Act.put, List.setIfInBounds_toArray, List.set_cons_zero, List.set_cons_succ, i64_w, i32_w]
        rfl
      refine pure_ (i := 11) (N := some 72) (v := ?_) (a' := ?_) #[true, true, true, true, true, true, true, true, true, true, true, true, false, false, false, false, false, false, false, false] rfl rfl (by kernel_rfl) (fun _ _ _ h => h) (Or.inl ⟨by rfl, ?_⟩) ?_ ?_
      rotate_left
      · intro w'
        go_simp
        with_reducible rfl
      rotate_left
      · simp only [Act.put, List.setIfInBounds_toArray, List.set_cons_zero, List.set_cons_succ, i64_w, i32_w]
        rfl
      refine pure_ (i := 12) (N := some 73) (v := ?_) (a' := ?_) #[true, true, true, true, true, true, true, true, true, true, true, true, true, false, false, false, false, false, false, false] rfl rfl (by kernel_rfl) (fun _ _ _ h => h) (Or.inl ⟨by rfl, ?_⟩) ?_ ?_
      rotate_left
      · intro w'
        go_simp
        with_reducible rfl
      rotate_left
      · simp only [Act.put, List.setIfInBounds_toArray, List.set_cons_zero, List.set_cons_succ, i64_w, i32_w]
        rfl
      refine two_ (i := 13) (j := 17) (Ni := some 74) (Nj := some 13) #[true, true, true, true, true, true, true, true, true, true, true, true, true, true, false, false, false, false, false, false] #[true, true, true, true, true, true, true, true, true, true, true, true, true, false, false, false, false, true, false, false] rfl rfl rfl rfl (by kernel_rfl) (by simp) (by simp) (fun K hK => ?_) (fun K hK => ?_)
      · skip
        replace HS := Aside0.mk (HS.out.below (below_drew (Below.refl _ _)))
        refine goes_ Try.func11 (by kernel_rfl) rfl #[.pointer (some ⟨b1, 0, none⟩), .int .i64 (wrap64 x), .int .i64 (wrap64 (val + wrap64 x))] (by rfl) rfl rfl (by simp only [List.map_toArray, List.map_cons, List.map_nil]; rfl) ?_
        with_reducible refine (HS.out.put1e x y (wrap64 x) (wrap64 (val + wrap64 x)) HXI.out.1 HXI.out.2 HM.out HW8.out HW6.out).mono ?_
        rintro e w5 ⟨rfl, hs_, _⟩
        refine ⟨_, rfl, ?_⟩
        refine hK.out _ _ (hs_.bl) (fun hHeld => ?_)
        clear hK K
        refine norm_ (a' := ?_) ?_ ?_
        rotate_left
        · show Act.put _ (some 74) _ = _
          simp only [Act.put, List.setIfInBounds_toArray, List.set_cons_zero, List.set_cons_succ, i64_w, i32_w]
          rfl
        replace HS := Aside0.mk hs_
        clear hs_
        refine pure_ (i := 14) (N := some 60) (v := ?_) (a' := ?_) #[true, true, true, true, true, true, true, true, true, true, true, true, true, true, true, false, false, false, false, false] rfl rfl (by kernel_rfl) (fun _ _ _ h => h) (Or.inl ⟨by rfl, ?_⟩) ?_ ?_
        rotate_left
        · intro w'
          go_simp
          with_reducible rfl
        rotate_left
        · simp only [Act.put, List.setIfInBounds_toArray, List.set_cons_zero, List.set_cons_succ, i64_w, i32_w]
          rfl
        refine pure_ (i := 15) (N := some 75) (v := ?_) (a' := ?_) #[true, true, true, true, true, true, true, true, true, true, true, true, true, true, true, true, false, false, false, false] rfl rfl (by kernel_rfl) (fun _ _ _ h => h) (Or.inl ⟨by rfl, ?_⟩) ?_ ?_
        rotate_left
        · intro w'
          go_simp
          with_reducible rfl
        rotate_left
        · simp only [Act.put, List.setIfInBounds_toArray, List.set_cons_zero, List.set_cons_succ, i64_w, i32_w]
          rfl
        refine pure_ (i := 16) (N := some 76) (v := ?_) (a' := ?_) #[true, true, true, true, true, true, true, true, true, true, true, true, true, true, true, true, true, false, false, false] rfl rfl (by kernel_rfl) (fun _ _ _ h => h) (Or.inl ⟨by rfl, ?_⟩) ?_ ?_
        rotate_left
        · intro w'
          go_simp
          with_reducible rfl
        rotate_left
        · simp only [Act.put, List.setIfInBounds_toArray, List.set_cons_zero, List.set_cons_succ, i64_w, i32_w]
          rfl
        refine one_ (i := 17) (N := some 13) #[true, true, true, true, true, true, true, true, true, true, true, true, true, true, true, true, true, true, false, false] rfl rfl (by kernel_rfl) (by simp) (fun K hK => ?_)
        refine value_ (w1 := (w5).alloc (.cells #[.int .i64 0, .int .i64 0, .int .i64 0, .int .i64 0, .bool false] 30)) (v := .pointer (some ⟨(w5).heap.size, 0, none⟩)) (by rfl) rfl (by first | (go_simp; done) | (go_simp; rfl)) ?_
        refine hK.out _ _ (below_alloc HS.out.bl _) (fun hHeld => ?_)
        clear hK K
        refine norm_ (a' := ?_) ?_ ?_
        rotate_left
        · show Act.put _ (some 13) _ = _
          simp only [Act.put, List.setIfInBounds_toArray, List.set_cons_zero, List.set_cons_succ, i64_w, i32_w]
          rfl
        have HS9 : Aside0 (S2c w ((w5).alloc (.cells #[.int .i64 0, .int .i64 0, .int .i64 0, .int .i64 0, .bool false] 30)) b1 (put L1 x y) b2 L2 (w5).heap.size #[.int .i64 0, .int .i64 0, .int .i64 0, .int .i64 0, .bool false]) := ⟨⟨HS.out.below (below_alloc (Below.refl _ _) _), heap_alloc_new _ _, HS.out.bl.size⟩⟩
        clear HS
        have HS := HS9
        clear HS9
        generalize (w5).alloc (.cells #[.int .i64 0, .int .i64 0, .int .i64 0, .int .i64 0, .bool false] 30) = w6 at HS hHeld ⊢
        generalize (w5).heap.size = g at HS ⊢
        refine one_ (i := 18) (N := none) #[true, true, true, true, true, true, true, true, true, true, true, true, true, true, true, true, true, true, true, false] rfl rfl (by kernel_rfl) (by simp) (fun K hK => ?_)
        have d0_ := (blk_cell HS.out.r 0).trans (rfl : _ = some (.int .i64 0 : Value))
        have d1_ := (blk_cell HS.out.r 1).trans (rfl : _ = some (.int .i64 0 : Value))
        have d2_ := (blk_cell HS.out.r 2).trans (rfl : _ = some (.int .i64 0 : Value))
        have d3_ := (blk_cell HS.out.r 3).trans (rfl : _ = some (.int .i64 0 : Value))
        have d4_ := (blk_cell HS.out.r 4).trans (rfl : _ = some (.bool false : Value))
        have k0_ := blk_frozen HS.out.r 0
        have k1_ := blk_frozen HS.out.r 1
        have k2_ := blk_frozen HS.out.r 2
        have k3_ := blk_frozen HS.out.r 3
        have k4_ := blk_frozen HS.out.r 4
        refine skip_ (w1 := (((((w6).setCell ⟨g, 0, none⟩ (.int .i64 x)).setCell ⟨g, 1, none⟩ (.int .i64 0)).setCell ⟨g, 2, none⟩ (.int .i64 0)).setCell ⟨g, 3, none⟩ (.int .i64 y)).setCell ⟨g, 4, none⟩ (.bool false)) (by rfl) rfl (by go_simp; done) ?_
        refine hK.out _ _ (((((((HS.out).put 0 (.int .i64 x) (cs' := #[.int .i64 x, .int .i64 0, .int .i64 0, .int .i64 0, .bool false]) rfl).put 1 (.int .i64 0) (cs' := #[.int .i64 x, .int .i64 0, .int .i64 0, .int .i64 0, .bool false]) rfl).put 2 (.int .i64 0) (cs' := #[.int .i64 x, .int .i64 0, .int .i64 0, .int .i64 0, .bool false]) rfl).put 3 (.int .i64 y) (cs' := #[.int .i64 x, .int .i64 0, .int .i64 0, .int .i64 y, .bool false]) rfl).put 4 (.bool false) (cs' := #[.int .i64 x, .int .i64 0, .int .i64 0, .int .i64 y, .bool false]) rfl).s.bl) (fun hHeld => ?_)
        clear hK K
        replace HS := Aside0.mk ((((((HS.out).put 0 (.int .i64 x) (cs' := #[.int .i64 x, .int .i64 0, .int .i64 0, .int .i64 0, .bool false]) rfl).put 1 (.int .i64 0) (cs' := #[.int .i64 x, .int .i64 0, .int .i64 0, .int .i64 0, .bool false]) rfl).put 2 (.int .i64 0) (cs' := #[.int .i64 x, .int .i64 0, .int .i64 0, .int .i64 0, .bool false]) rfl).put 3 (.int .i64 y) (cs' := #[.int .i64 x, .int .i64 0, .int .i64 0, .int .i64 y, .bool false]) rfl).put 4 (.bool false) (cs' := #[.int .i64 x, .int .i64 0, .int .i64 0, .int .i64 y, .bool false]) rfl)
        clear d0_ k0_ d1_ k1_ d2_ k2_ d3_ k3_ d4_ k4_ hHeld
        generalize (((((w6).setCell ⟨g, 0, none⟩ (.int .i64 x)).setCell ⟨g, 1, none⟩ (.int .i64 0)).setCell ⟨g, 2, none⟩ (.int .i64 0)).setCell ⟨g, 3, none⟩ (.int .i64 y)).setCell ⟨g, 4, none⟩ (.bool false) = w7 at HS ⊢
        refine pure_ (i := 19) (N := some 14) (v := ?_) (a' := ?_) #[true, true, true, true, true, true, true, true, true, true, true, true, true, true, true, true, true, true, true, true] rfl rfl (by kernel_rfl) (fun _ _ _ h => h) (Or.inl ⟨by rfl, ?_⟩) ?_ ?_
        rotate_left
        · intro w'
          go_simp
          with_reducible rfl
        rotate_left
        · simp only [Act.put, List.setIfInBounds_toArray, List.set_cons_zero, List.set_cons_succ, i64_w, i32_w]
          rfl
        refine done_ (by kernel_rfl) ?_
        replace HS := Aside0.mk HS.out.s
        go_wp2_with fail
        refine (HS.out.symm.put1 x2 y2 HX2.out.1 HX2.out.2 HM2.out).mono ?_
        rintro e w8 ⟨rfl, hs_, _⟩
        replace HS := Aside0.mk hs_.symm
        clear hs_
        go_wp2_with fail
        go_roundw
        case rel => exact ⟨i + 1, _, _, by omega, by go_num, HN1, HN2, ⟨HS.out.below (by repeat (first | exact Below.refl _ _ | apply below_alloc | (refine below_set ?_ (Nat.le_refl _))))⟩⟩
        case measure => simp [intOf]; omega
      · skip
        replace HS := Aside0.mk (HS.out.below (below_drew (Below.refl _ _)))
        refine value_ (w1 := (wr.drew).alloc (.cells #[.int .i64 0, .int .i64 0, .int .i64 0, .int .i64 0, .bool false] 30)) (v := .pointer (some ⟨(wr.drew).heap.size, 0, none⟩)) (by rfl) rfl (by first | (go_simp; done) | (go_simp; rfl)) ?_
        refine hK.out _ _ (below_alloc HS.out.bl _) (fun hHeld => ?_)
        clear hK K
        refine norm_ (a' := ?_) ?_ ?_
        rotate_left
        · show Act.put _ (some 13) _ = _
          simp only [Act.put, List.setIfInBounds_toArray, List.set_cons_zero, List.set_cons_succ, i64_w, i32_w]
          rfl
        have HS9 : Aside0 (S2c w ((wr.drew).alloc (.cells #[.int .i64 0, .int .i64 0, .int .i64 0, .int .i64 0, .bool false] 30)) b1 L1 b2 L2 (wr.drew).heap.size #[.int .i64 0, .int .i64 0, .int .i64 0, .int .i64 0, .bool false]) := ⟨⟨HS.out.below (below_alloc (Below.refl _ _) _), heap_alloc_new _ _, HS.out.bl.size⟩⟩
        clear HS
        have HS := HS9
        clear HS9
        generalize (wr.drew).alloc (.cells #[.int .i64 0, .int .i64 0, .int .i64 0, .int .i64 0, .bool false] 30) = w5 at HS hHeld ⊢
        generalize (wr.drew).heap.size = g at HS ⊢
        refine one_ (i := 13) (N := some 74) #[true, true, true, true, true, true, true, true, true, true, true, true, true, true, false, false, false, true, false, false] rfl rfl (by kernel_rfl) (by simp) (fun K hK => ?_)
        refine goes_ Try.func11 (by kernel_rfl) rfl #[.pointer (some ⟨b1, 0, none⟩), .int .i64 (wrap64 x), .int .i64 (wrap64 (val + wrap64 x))] (by rfl) rfl rfl (by simp only [List.map_toArray, List.map_cons, List.map_nil]; rfl) ?_
        with_reducible refine (HS.out.put1e x y (wrap64 x) (wrap64 (val + wrap64 x)) HXI.out.1 HXI.out.2 HM.out HW8.out HW6.out).mono ?_
        rintro e w6 ⟨rfl, hs_⟩
        refine ⟨_, rfl, ?_⟩
        refine hK.out _ _ (hs_.s.bl) (fun hHeld => ?_)
        clear hK K
        refine norm_ (a' := ?_) ?_ ?_
        rotate_left
        · show Act.put _ (some 74) _ = _
          simp only [Act.put, List.setIfInBounds_toArray, List.set_cons_zero, List.set_cons_succ, i64_w, i32_w]
          rfl
        replace HS := Aside0.mk hs_
        clear hs_
        refine pure_ (i := 14) (N := some 60) (v := ?_) (a' := ?_) #[true, true, true, true, true, true, true, true, true, true, true, true, true, true, true, false, false, true, false, false] rfl rfl (by kernel_rfl) (fun _ _ _ h => h) (Or.inl ⟨by rfl, ?_⟩) ?_ ?_
        rotate_left
        · intro w'
          go_simp
          with_reducible rfl
        rotate_left
        · simp only [Act.put, List.setIfInBounds_toArray, List.set_cons_zero, List.set_cons_succ, i64_w, i32_w]
          rfl
        refine pure_ (i := 15) (N := some 75) (v := ?_) (a' := ?_) #[true, true, true, true, true, true, true, true, true, true, true, true, true, true, true, true, false, true, false, false] rfl rfl (by kernel_rfl) (fun _ _ _ h => h) (Or.inl ⟨by rfl, ?_⟩) ?_ ?_
        rotate_left
        · intro w'
          go_simp
          with_reducible rfl
        rotate_left
        · simp only [Act.put, List.setIfInBounds_toArray, List.set_cons_zero, List.set_cons_succ, i64_w, i32_w]
          rfl
        refine pure_ (i := 16) (N := some 76) (v := ?_) (a' := ?_) #[true, true, true, true, true, true, true, true, true, true, true, true, true, true, true, true, true, true, false, false] rfl rfl (by kernel_rfl) (fun _ _ _ h => h) (Or.inl ⟨by rfl, ?_⟩) ?_ ?_
        rotate_left
        · intro w'
          go_simp
          with_reducible rfl
        rotate_left
        · simp only [Act.put, List.setIfInBounds_toArray, List.set_cons_zero, List.set_cons_succ, i64_w, i32_w]
          rfl
        refine one_ (i := 18) (N := none) #[true, true, true, true, true, true, true, true, true, true, true, true, true, true, true, true, true, true, true, false] rfl rfl (by kernel_rfl) (by simp) (fun K hK => ?_)
        have d0_ := (blk_cell HS.out.r 0).trans (rfl : _ = some (.int .i64 0 : Value))
        have d1_ := (blk_cell HS.out.r 1).trans (rfl : _ = some (.int .i64 0 : Value))
        have d2_ := (blk_cell HS.out.r 2).trans (rfl : _ = some (.int .i64 0 : Value))
        have d3_ := (blk_cell HS.out.r 3).trans (rfl : _ = some (.int .i64 0 : Value))
        have d4_ := (blk_cell HS.out.r 4).trans (rfl : _ = some (.bool false : Value))
        have k0_ := blk_frozen HS.out.r 0
        have k1_ := blk_frozen HS.out.r 1
        have k2_ := blk_frozen HS.out.r 2
        have k3_ := blk_frozen HS.out.r 3
        have k4_ := blk_frozen HS.out.r 4
        refine skip_ (w1 := (((((w6).setCell ⟨g, 0, none⟩ (.int .i64 x)).setCell ⟨g, 1, none⟩ (.int .i64 0)).setCell ⟨g, 2, none⟩ (.int .i64 0)).setCell ⟨g, 3, none⟩ (.int .i64 y)).setCell ⟨g, 4, none⟩ (.bool false)) (by rfl) rfl (by go_simp; done) ?_
        refine hK.out _ _ (((((((HS.out).put 0 (.int .i64 x) (cs' := #[.int .i64 x, .int .i64 0, .int .i64 0, .int .i64 0, .bool false]) rfl).put 1 (.int .i64 0) (cs' := #[.int .i64 x, .int .i64 0, .int .i64 0, .int .i64 0, .bool false]) rfl).put 2 (.int .i64 0) (cs' := #[.int .i64 x, .int .i64 0, .int .i64 0, .int .i64 0, .bool false]) rfl).put 3 (.int .i64 y) (cs' := #[.int .i64 x, .int .i64 0, .int .i64 0, .int .i64 y, .bool false]) rfl).put 4 (.bool false) (cs' := #[.int .i64 x, .int .i64 0, .int .i64 0, .int .i64 y, .bool false]) rfl).s.bl) (fun hHeld => ?_)
        clear hK K
        replace HS := Aside0.mk ((((((HS.out).put 0 (.int .i64 x) (cs' := #[.int .i64 x, .int .i64 0, .int .i64 0, .int .i64 0, .bool false]) rfl).put 1 (.int .i64 0) (cs' := #[.int .i64 x, .int .i64 0, .int .i64 0, .int .i64 0, .bool false]) rfl).put 2 (.int .i64 0) (cs' := #[.int .i64 x, .int .i64 0, .int .i64 0, .int .i64 0, .bool false]) rfl).put 3 (.int .i64 y) (cs' := #[.int .i64 x, .int .i64 0, .int .i64 0, .int .i64 y, .bool false]) rfl).put 4 (.bool false) (cs' := #[.int .i64 x, .int .i64 0, .int .i64 0, .int .i64 y, .bool false]) rfl)
        clear d0_ k0_ d1_ k1_ d2_ k2_ d3_ k3_ d4_ k4_ hHeld
        generalize (((((w6).setCell ⟨g, 0, none⟩ (.int .i64 x)).setCell ⟨g, 1, none⟩ (.int .i64 0)).setCell ⟨g, 2, none⟩ (.int .i64 0)).setCell ⟨g, 3, none⟩ (.int .i64 y)).setCell ⟨g, 4, none⟩ (.bool false) = w7 at HS ⊢
        refine pure_ (i := 19) (N := some 14) (v := ?_) (a' := ?_) #[true, true, true, true, true, true, true, true, true, true, true, true, true, true, true, true, true, true, true, true] rfl rfl (by kernel_rfl) (fun _ _ _ h => h) (Or.inl ⟨by rfl, ?_⟩) ?_ ?_
        rotate_left
        · intro w'
          go_simp
          with_reducible rfl
        rotate_left
        · simp only [Act.put, List.setIfInBounds_toArray, List.set_cons_zero, List.set_cons_succ, i64_w, i32_w]
          rfl
        refine done_ (by kernel_rfl) ?_
        replace HS := Aside0.mk HS.out.s
        go_wp2_with fail
        refine (HS.out.symm.put1 x2 y2 HX2.out.1 HX2.out.2 HM2.out).mono ?_
        rintro e w8 ⟨rfl, hs_, _⟩
        replace HS := Aside0.mk hs_.symm
        clear hs_
        go_wp2_with fail
        go_roundw
        case rel => exact ⟨i + 1, _, _, by omega, by go_num, HN1, HN2, ⟨HS.out.below (by repeat (first | exact Below.refl _ _ | apply below_alloc | (refine below_set ?_ (Nat.le_refl _))))⟩⟩
        case measure => simp [intOf]; omega

    · obtain rfl : i = n := by omega
      obtain rfl : L1 = L2 := by
        have h1 := HI1.out
        have h2 := HI2.out
        rw [List.take_of_length_le (by rw [HL.out]; omega)] at h1
        rw [Nat.sub_self, List.drop_zero] at h2
        exact h1.same h2
      clear hlt
      go_wp2_with fail
      refine (HS.out.one.list).mono ?_
      rintro e w9 ⟨v0, rfl, hr_, hb_⟩
      obtain ⟨m, HM⟩ : ∃ m, Aside0 (L1.length = m) := ⟨_, ⟨rfl⟩⟩
      have hm1 : m ≤ 1024 := by rw [← HM.out]; exact HS.out.one.kv.2.2
      replace HS := Aside0.mk (HS.out.below hb_)
      obtain ⟨A9, c9, rfl⟩ := Kd.R_slice hr_
      have HR := Aside0.mk (Kd.R_reads' hr_).2.2
      have hc9 := (Kd.R_reads' hr_).2.1
      rw [chg_len, HM.out] at HR hc9 ⊢
      clear hr_ hb_
      go_wp2_with fail
      refine (HS.out.symm.one.list).mono ?_
      rintro e w10 ⟨v0, rfl, hr_, hb_⟩
      replace HS := Aside0.mk (HS.out.below hb_)
      replace HR := Aside0.mk (Kd.C_below HR.out hb_)
      obtain ⟨A10, c10, rfl⟩ := Kd.R_slice hr_
      have HR10 := Aside0.mk (Kd.R_reads' hr_).2.2
      have hc10 := (Kd.R_reads' hr_).2.1
      rw [chg_len, HM.out] at HR10 hc10 ⊢
      clear hr_ hb_
      go_wp2_with fail
      refine (ch_same L1 m HM.out hm1 A9 c9 A10 c10 _ HR.out hc9 HR10.out hc10).mono ?_
      rintro e w12 ⟨rfl, hb_⟩
      replace HS := Aside0.mk (HS.out.below hb_)
      clear hb_
      go_wp2_with fail
      go_ret
      exact ⟨rfl, HS.out.bl⟩
end Go.Proofs.Ytlnpnlacalppjaa.Kv
