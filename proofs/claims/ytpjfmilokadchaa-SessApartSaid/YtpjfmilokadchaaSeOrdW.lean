/- (c14) The statement SessOrder. -/
import Derived.Test.YtpjfmilokadchaaSeShw
namespace Go.Proofs.Ytpjfmilokadchaa.Se
open Go Go.RowKit Go.Proofs.YtpjfmilokadchaaW.PrintWords Go.Proofs.YtpjfmilokadchaaW.PrintLast Go.Proofs.YtpjfmilokadchaaW.PrintMore Go.Proofs.Ytpjfmilokadchaa.Rw Go.Proofs.Ytpjfmilokadchaa.Ex Go.Proofs.Ytpjfmilokadchaa.Mono
set_option linter.unusedVariables false
set_option linter.unusedSimpArgs false
theorem In64.of {n : Int} (h0 : -9223372036854775808 ≤ n) (h1 : n ≤ 9223372036854775807) : In64 n := ⟨h0, h1⟩
theorem St2.putE {w0 w : World} {b1 b2 : Nat} {r1 r2 g1 g2 : Int} {L1 L2 : List Ses} (h : St2 w0 w b1 r1 g1 L1 b2 r2 g2 L2) (key t val key' t' : Int) (e1 : key' = key) (e2 : t' = t) (hk : In64 key) (hv : In64 val) :
    Calls Try.prog 10 #[.pointer (some ⟨b1, 0, none⟩), .int .i64 key', .int .i64 t', .int .i64 val] w fun e w' => PutOut w (putM r1 g1 L1 key t val) (putE r1 g1 L1 key t) e w' ∧ St2 w0 w' b1 r1 g1 (putL r1 g1 L1 key t val) b2 r2 g2 L2 ∧ KeepT w w' := by
  subst e1
  subst e2
  exact h.put _ _ _ hk hv
theorem putL_ok {room g : Int} {L : List Ses} {key t v : Int} (hm : 0 ≤ t ∧ t ≤ 1099511627776) (hl : (L.length : Int) < room) : putOK room g L key t = true ∧ putL room g L key t v = putS g L key t v := by
  have h : putOK room g L key t = true := by
    unfold putOK mayT
    simp only [Bool.and_eq_true, Bool.or_eq_true, decide_eq_true_eq]
    exact ⟨hm, .inr hl⟩
  exact ⟨h, by unfold putL; rw [if_pos h]⟩
def pr (x : Int) : Int × Int := (x % 3, x)
def OrdI (g : Int) (xs : List Int) (L : List Ses) : Prop := (∃ P, Inv g P L ∧ ∀ p, p ∈ P ↔ p ∈ xs.map pr) ∧ (∀ x ∈ L, x.v = 1) ∧ L.length ≤ xs.length
theorem OrdI.start (g : Int) : OrdI g [] [] := ⟨⟨[], Inv.nil g, fun p => Iff.rfl⟩, fun x hx => (List.not_mem_nil hx).elim, Nat.le_refl _⟩
theorem put_len_le (g : Int) (L : List Ses) (key t v : Int) : (putS g L key t v).length ≤ L.length + 1 := by have := put_len g L key t v; omega
theorem OrdI.snoc {g : Int} {xs : List Int} {L : List Ses} (h : OrdI g xs L) (hg : 1 ≤ g) (x : Int) (hx : 0 ≤ x ∧ x ≤ 1099511627776) : OrdI g (xs ++ [x]) (putS g L (x % 3) x 1) := by
  obtain ⟨⟨P, h1, h2⟩, h3, h4⟩ := h
  refine ⟨⟨_, h1.put hg hx, fun p => ?_⟩, put_val h3, by have := put_len_le g L (x % 3) x 1; rw [List.length_append]; simp; omega⟩
  rw [List.mem_cons, h2, List.map_append, List.mem_append, List.map_cons, List.map_nil, List.mem_singleton]
  unfold pr
  exact ⟨fun h => h.symm, fun h => h.symm⟩
theorem OrdI.cons {g : Int} {xs : List Int} {L : List Ses} (h : OrdI g xs L) (hg : 1 ≤ g) (x : Int) (hx : 0 ≤ x ∧ x ≤ 1099511627776) : OrdI g (x :: xs) (putS g L (x % 3) x 1) := by
  obtain ⟨⟨P, h1, h2⟩, h3, h4⟩ := h
  refine ⟨⟨_, h1.put hg hx, fun p => ?_⟩, put_val h3, by have := put_len_le g L (x % 3) x 1; rw [List.length_cons]; omega⟩
  rw [List.mem_cons, h2, List.map_cons, List.mem_cons]
  unfold pr
  exact Iff.rfl
theorem OrdI.same {g : Int} {xs : List Int} {L M : List Ses} (hg : 1 ≤ g) (h : OrdI g xs L) (k : OrdI g xs M) : L = M := by
  obtain ⟨⟨P, h1, h2⟩, h3, h4⟩ := h
  obtain ⟨⟨Q, k1, k2⟩, k3, k4⟩ := k
  exact h1.same hg k1 (fun p => (h2 p).trans (k2 p).symm) h3 k3
theorem C_take {w : World} {A : Option Addr} {n m : Nat} {α : Type} {k : Kd α} {l : List α} (h : Kd.C k w A n l) (hm : m ≤ n) : Kd.C k w A m (l.take m) := by
  refine ⟨by have := h.1; rw [List.length_take]; omega, by have := h.2.1; omega, fun hh => ?_⟩
  obtain ⟨ad, e, hc⟩ := h.2.2 (by omega)
  refine ⟨ad, e, fun j p hj => hc j p ?_⟩
  rw [List.getElem?_take] at hj
  split at hj
  · exact hj
  · cases hj
theorem at_u16 {w : World} {A : Option Addr} {n : Nat} {l : List Int} (h : Kd.C (Kd.int .u16) w A n l) {i : Nat} {x : Int} (hx : l[i]? = some x) : ∃ ad, A = some ad ∧ w.cell? (ad.add i) = some (.int .u16 x) := by
  have hlt := (List.getElem?_eq_some_iff.1 hx).1
  obtain ⟨ad, e, hy⟩ := Kd.at_int h (i : Int) (by omega) (by have := h.1; omega)
  refine ⟨ad, e, ?_⟩
  have e2 : rd l (i : Int) = x := by unfold rd; rw [Int.toNat_natCast, List.getD_eq_getElem?_getD, hx]; rfl
  rw [e2] at hy
  exact hy
theorem drop_cons_of {l : List Int} {j : Nat} {x : Int} (h : l[j]? = some x) : l.drop j = x :: l.drop (j + 1) := by
  obtain ⟨a, rfl⟩ := List.getElem?_eq_some_iff.1 h
  exact List.drop_eq_getElem_cons a
theorem take_snoc_of {l : List Int} {j : Nat} {x : Int} (h : l[j]? = some x) : l.take (j + 1) = l.take j ++ [x] := by
  obtain ⟨a, rfl⟩ := List.getElem?_eq_some_iff.1 h
  exact List.take_succ_eq_append_getElem a
set_option maxHeartbeats 4000000 in
set_option maxRecDepth 100000 in
theorem order_law (gap : Int) (A0 : Option Addr) (c0 : Nat) (l0 : List Int) (w : World) (hgp : 0 ≤ gap ∧ gap < 256) (hr0 : Kd.C (Kd.int .u16) w A0 l0.length l0) (hc0 : l0.length ≤ c0) (hi : ∀ x ∈ l0, 0 ≤ x ∧ x < 65536) :
    Calls Try.prog 5 #[.int .u8 gap, .slice A0 l0.length c0] w fun e w' => e = .returned (.bool true) ∧ Below w.heap.size w w' := by
  obtain ⟨n, hn⟩ : ∃ n, min l0.length 200 = n := ⟨_, rfl⟩
  obtain ⟨l, hl⟩ : ∃ l, l0.take n = l := ⟨_, rfl⟩
  have HC : Aside0 (Kd.C (Kd.int .u16) w A0 n l) := ⟨by rw [← hl]; exact C_take hr0 (by omega)⟩
  have HL : Aside0 (l.length = n) := ⟨by rw [← hl, List.length_take]; omega⟩
  have HI : Aside0 (∀ x ∈ l, 0 ≤ x ∧ x < 65536) := ⟨fun x hx => hi x (by rw [← hl] at hx; exact List.mem_of_mem_take hx)⟩
  have hn3 : n ≤ 200 := by omega
  have hcn : n ≤ c0 := by omega
  have HB := Aside0.mk (Below.refl w.heap.size w)
  obtain ⟨G, HG⟩ : ∃ G, Aside0 (1 + gap = G) := ⟨_, ⟨rfl⟩⟩
  have HGG : Aside0 (1 ≤ G ∧ G ≤ 1048576) := ⟨by have := HG.out; omega⟩
  have hg1 : wrap64 gap = gap := by unfold wrap64; omega
  have hg2 : wrap64 (1 + gap) = G := by rw [← HG.out]; unfold wrap64; omega
  obtain ⟨n0, HN0⟩ : ∃ n0, Aside0 (l0.length = n0) := ⟨_, ⟨rfl⟩⟩
  rw [HN0.out] at hn hc0 ⊢
  have HNN := Aside0.mk hn
  have hgl := hgp.1
  have hgh := hgp.2
  clear hr0 hi hl hn hgp
  go_enter Try.func5, Try.ntmps5
  go_wp2_with fail
  refine (shown_ok _).mono ?_
  rintro e w1 ⟨rfl, hb_⟩
  replace HB := Aside0.mk (below_step HB.out hb_)
  clear hb_
  go_wp2_with fail
  rw [HG.out]
  refine (new1 1024 G w _ HB.out (by omega) (by omega) HGG.out.1 HGG.out.2).mono ?_
  rintro e w2 ⟨b1, rfl, hs_, _⟩
  have HS := Aside0.mk hs_
  clear hs_ HB
  go_wp2_with fail
  rw [HG.out]
  refine (new2 1024 G w _ HS.out (by omega) (by omega) HGG.out.1 HGG.out.2).mono ?_
  rintro e w3 ⟨b2, rfl, hs_⟩
  replace HS := Aside0.mk hs_
  clear hs_
  clear hg1 hg2 hgl hgh
  obtain ⟨bb, hbb⟩ : ∃ bb, decide ((200 : Int) < (n0 : Int)) = bb := ⟨_, rfl⟩
  go_upto_if 45 with fail
  go_cut [10] (fun v10 wc => v10 = .slice A0 n c0 ∧ wc = w3)
  case first =>
    by_cases hgt : 200 < n0
    · obtain rfl : bb = true := by rw [← hbb]; simp; omega
      have h1b : decide (200 < n0) = true := by simp; omega
      have h2 : (200 : Int) ≤ (c0 : Int) := by omega
      have HN3 : Aside0 (n = 200) := ⟨by have := HNN.out; omega⟩
      go_wp2_with fail
      go_meet
      case rel => exact ⟨by rw [HN3.out], rfl⟩
    · obtain rfl : bb = false := by rw [← hbb]; simp; omega
      have h1b : decide (200 < n0) = false := by simp; omega
      have HN3 : Aside0 (n = n0) := ⟨by have := HNN.out; omega⟩
      go_wp2_with fail
      go_meet
      case rel => exact ⟨by rw [HN3.out], rfl⟩
  case rest =>
  obtain ⟨rfl, rfl⟩ := hcut
  clear HNN HN0 hc0 hbb
  go_wp2_with fail
  go_loopw [11] (fun v11 wr => ∃ (i : Nat) (L1 L2 : List Ses), i ≤ n ∧ v11 = .int .i64 (i : Int) ∧ Aside0 (OrdI G (l.take i) L1) ∧ Aside0 (OrdI G (l.drop (n - i)) L2) ∧ Aside0 (St2 w wr b1 1024 G L1 b2 1024 G L2)) (fun v11 _ => n - (intOf v11).toNat)
  case atStart => exact ⟨0, [], [], by omega, rfl, ⟨by rw [List.take_zero]; exact OrdI.start _⟩, ⟨by rw [Nat.sub_zero, List.drop_of_length_le (by rw [HL.out]; omega)]; exact OrdI.start _⟩, HS⟩
  case round =>
    clear HS
    obtain ⟨i, L1, L2, hi, rfl, HI1, HI2, HS⟩ := hrel
    by_cases hlt : i < n
    · have h1 : decide ((i : Int) < (n : Int)) = true := by simp; omega
      have h1b : decide (i < n) = true := by simp; omega
      obtain ⟨x, hx⟩ : ∃ x, l[i]? = some x := ⟨_, List.getElem?_eq_getElem (by rw [HL.out]; omega)⟩
      obtain ⟨x2, hx2⟩ : ∃ x, l[n - 1 - i]? = some x := ⟨_, List.getElem?_eq_getElem (by rw [HL.out]; omega)⟩
      obtain ⟨ad, rfl, _⟩ := at_u16 HC.out hx
      have HCX := Aside0.mk (show ∀ W : World, Below wr.heap.size wr W → W.cell? (ad.add i) = some (.int .u16 x) from fun W hW => by
        obtain ⟨ad2, e2, h⟩ := at_u16 (Kd.C_below HC.out (below_step HS.out.bl hW)) hx
        injection e2 with e2
        rw [e2]
        exact h)
      have HXX2 := Aside0.mk hx2
      have bx := HI.out x (List.mem_of_getElem? hx)
      have bx2 := HI.out x2 (List.mem_of_getElem? hx2)
      have hl1 : L1.length ≤ 200 := by have := HI1.out.2.2; rw [List.length_take, HL.out] at this; omega
      have hl2 : L2.length ≤ 200 := by have := HI2.out.2.2; rw [List.length_drop, HL.out] at this; omega
      have HM := Aside0.mk (putL_ok (room := 1024) (g := G) (L := L1) (key := x % 3) (t := x) (v := 1) ⟨by omega, by omega⟩ (by omega)).2
      have HM2 := Aside0.mk (putL_ok (room := 1024) (g := G) (L := L2) (key := x2 % 3) (t := x2) (v := 1) ⟨by omega, by omega⟩ (by omega)).2
      have HN1 : Aside0 (OrdI G (l.take (i + 1)) (putS G L1 (x % 3) x 1)) := ⟨by rw [take_snoc_of hx]; exact HI1.out.snoc HGG.out.1 x ⟨by omega, by omega⟩⟩
      have HN2 : Aside0 (OrdI G (l.drop (n - (i + 1))) (putS G L2 (x2 % 3) x2 1)) := ⟨by
        rw [show n - (i + 1) = n - 1 - i by omega, drop_cons_of hx2, show n - 1 - i + 1 = n - i by omega]
        exact HI2.out.cons HGG.out.1 x2 ⟨by omega, by omega⟩⟩
      have hw1 : IntKind.i64.wrap ((n : Int) - 1) = (n : Int) - 1 := by rw [IntKind.wrap_i64]; omega
      have hw2 : IntKind.i64.wrap ((n : Int) - 1 - (i : Int)) = ((n - 1 - i : Nat) : Int) := by rw [IntKind.wrap_i64]; omega
      have hw3 : (n : Int) - 1 - (i : Int) = ((n - 1 - i : Nat) : Int) := by omega
      have hj : n - 1 - i < n := by omega
      obtain ⟨j, HJ⟩ : ∃ j, Aside0 (n - 1 - i = j) := ⟨_, ⟨rfl⟩⟩
      rw [HJ.out] at hw2 hw3 hj HXX2
      have hij : (i : Int) < (n : Int) := by omega
      have hjj : (j : Int) < (n : Int) := by omega
      have HX1 : Aside0 (In64 (x % 3) ∧ In64 (x2 % 3)) := ⟨⟨⟨by omega, by omega⟩, ⟨by omega, by omega⟩⟩⟩
      have hx0 : 0 ≤ x := bx.1
      have hx1 : x < 65536 := bx.2
      have hy0 : 0 ≤ x2 := bx2.1
      have hy1 : x2 < 65536 := bx2.2
      obtain ⟨kx, HKX⟩ : ∃ k, Aside0 (x % 3 = k) := ⟨_, ⟨rfl⟩⟩
      have hk1 : x.tmod 3 = kx := by rw [← HKX.out]; exact Int.tmod_eq_emod_of_nonneg hx0
      have hk2 : x % 3 = kx := HKX.out
      have hk3 : 0 ≤ kx := by omega
      have hk4 : kx < 3 := by omega
      have HW5 : Aside0 (wrap64 kx = kx) := ⟨by unfold wrap64; omega⟩
      have HW6 : Aside0 (wrap64 x = x) := ⟨by unfold wrap64; omega⟩
      rw [hk2] at HM HN1 HX1
      clear hx hx2 hl1 hl2 bx bx2
      go_upto_region 12 with fail
      refine start_ (n := 13) (S := fun w' => Below wr.heap.size wr w') (ds := [12]) #[false, false, false, false, false, false, false, false, false, false, false, false, false] (by kernel_rfl) rfl rfl (below_drew (Below.refl _ _)) (fun hHeld => ?_)
      refine pure_ (i := 0) (N := some 54) (v := ?_) (a' := ?_) #[true, false, false, false, false, false, false, false, false, false, false, false, false] rfl rfl (by kernel_rfl) (fun _ _ _ h => h) (Or.inl ⟨by rfl, ?_⟩) ?_ ?_
      rotate_left
      · intro w'
        go_simp
        with_reducible rfl
      rotate_left
      · simp only [Act.put, List.setIfInBounds_toArray, List.set_cons_zero, List.set_cons_succ, i64_w, i32_w]
        rfl
      refine pure_ (i := 1) (N := some 55) (v := ?_) (a' := ?_) #[true, true, false, false, false, false, false, false, false, false, false, false, false] rfl rfl (by kernel_rfl) (fun _ _ _ h => h) (Or.inl ⟨by rfl, ?_⟩) ?_ ?_
      rotate_left
      · intro w'
        go_simp
        with_reducible rfl
      rotate_left
      · simp only [Act.put, List.setIfInBounds_toArray, List.set_cons_zero, List.set_cons_succ, i64_w, i32_w]
        rfl
      refine pure_ (i := 2) (N := some 56) (v := ?_) (a' := ?_) #[true, true, true, false, false, false, false, false, false, false, false, false, false] rfl rfl (by kernel_rfl) (fun _ _ _ h => h) (Or.inl ⟨by rfl, ?_⟩) ?_ ?_
      rotate_left
      · intro w'
        go_simp
        with_reducible rfl
      rotate_left
      · simp only [Act.put, List.setIfInBounds_toArray, List.set_cons_zero, List.set_cons_succ, i64_w, i32_w]
        rfl
      refine pure_ (i := 3) (N := some 57) (v := ?_) (a' := ?_) #[true, true, true, true, false, false, false, false, false, false, false, false, false] rfl rfl (by kernel_rfl) (fun _ _ _ h => h) (Or.inl ⟨by rfl, ?_⟩) ?_ ?_
      rotate_left
      · intro w'
        go_simp
        with_reducible rfl
      rotate_left
      · simp only [Act.put, List.setIfInBounds_toArray, List.set_cons_zero, List.set_cons_succ, i64_w, i32_w]
        rfl
      refine pure_ (i := 7) (N := some 61) (v := ?_) (a' := ?_) #[true, true, true, true, false, false, false, true, false, false, false, false, false] rfl rfl (by kernel_rfl) (fun _ _ _ h => h) (Or.inl ⟨by rfl, ?_⟩) ?_ ?_
      rotate_left
      · intro w'
        go_simp
        with_reducible rfl
      rotate_left
      · simp only [Act.put, List.setIfInBounds_toArray, List.set_cons_zero, List.set_cons_succ, i64_w, i32_w]
        rfl
      refine pure_ (i := 8) (N := some 62) (v := ?_) (a' := ?_) #[true, true, true, true, false, false, false, true, true, false, false, false, false] rfl rfl (by kernel_rfl) (fun _ _ _ h => h) (Or.inl ⟨by rfl, ?_⟩) ?_ ?_
      rotate_left
      · intro w'
        go_simp
        with_reducible rfl
      rotate_left
      · simp only [Act.put, List.setIfInBounds_toArray, List.set_cons_zero, List.set_cons_succ, i64_w, i32_w]
        rfl
      refine pure_ (i := 9) (N := some 63) (v := ?_) (a' := ?_) #[true, true, true, true, false, false, false, true, true, true, false, false, false] rfl rfl (by kernel_rfl) (fun _ _ _ h => h) (Or.inl ⟨by rfl, ?_⟩) ?_ ?_
      rotate_left
      · intro w'
        go_simp
        with_reducible rfl
      rotate_left
      · simp only [Act.put, List.setIfInBounds_toArray, List.set_cons_zero, List.set_cons_succ, i64_w, i32_w]
        rfl
      refine take_ (i := 4) (N := some 58) (v := ?_) (a' := ?_) #[true, true, true, true, true, false, false, true, true, true, false, false, false] rfl rfl (by kernel_rfl) (fun _ _ _ h => h) (Or.inl ⟨by rfl, ?_⟩) hHeld ?_ ?_
      rotate_left
      · intro w' hS
        have c_ := (HCX.out _ hS)
        go_simp
        with_reducible rfl
      rotate_left
      · simp only [Act.put, List.setIfInBounds_toArray, List.set_cons_zero, List.set_cons_succ, i64_w, i32_w]
        rfl
      refine pure_ (i := 5) (N := some 59) (v := ?_) (a' := ?_) #[true, true, true, true, true, true, false, true, true, true, false, false, false] rfl rfl (by kernel_rfl) (fun _ _ _ h => h) (Or.inl ⟨by rfl, ?_⟩) ?_ ?_
      rotate_left
      · intro w'
        go_simp
        with_reducible rfl
      rotate_left
      · simp only [Act.put, List.setIfInBounds_toArray, List.set_cons_zero, List.set_cons_succ, i64_w, i32_w]
        rfl
      refine pure_ (i := 6) (N := some 60) (v := ?_) (a' := ?_) #[true, true, true, true, true, true, true, true, true, true, false, false, false] rfl rfl (by kernel_rfl) (fun _ _ _ h => h) (Or.inl ⟨by rfl, ?_⟩) ?_ ?_
      rotate_left
      · intro w'
        go_simp
        with_reducible rfl
      rotate_left
      · simp only [Act.put, List.setIfInBounds_toArray, List.set_cons_zero, List.set_cons_succ, i64_w, i32_w]
        rfl
      refine take_ (i := 10) (N := some 64) (v := ?_) (a' := ?_) #[true, true, true, true, true, true, true, true, true, true, true, false, false] rfl rfl (by kernel_rfl) (fun _ _ _ h => h) (Or.inl ⟨by rfl, ?_⟩) hHeld ?_ ?_
      rotate_left
      · intro w' hS
        have c_ := (HCX.out _ hS)
        go_simp
        with_reducible rfl
      rotate_left
      · simp only [Act.put, List.setIfInBounds_toArray, List.set_cons_zero, List.set_cons_succ, i64_w, i32_w]
        rfl
      refine pure_ (i := 11) (N := some 65) (v := ?_) (a' := ?_) #[true, true, true, true, true, true, true, true, true, true, true, true, false] rfl rfl (by kernel_rfl) (fun _ _ _ h => h) (Or.inl ⟨by rfl, ?_⟩) ?_ ?_
      rotate_left
      · intro w'
        go_simp
        with_reducible rfl
      rotate_left
      · simp only [Act.put, List.setIfInBounds_toArray, List.set_cons_zero, List.set_cons_succ, i64_w, i32_w]
        rfl
      refine last_ (i := 12) (N := some 66) #[true, true, true, true, true, true, true, true, true, true, true, true, true] rfl rfl (by kernel_rfl) (by simp) (fun K hK => ?_)
      replace HS := Aside0.mk (HS.out.below hHeld)
      refine goes_ Try.func10 (by kernel_rfl) rfl #[.pointer (some ⟨b1, 0, none⟩), .int .i64 (wrap64 kx), .int .i64 (wrap64 x), .int .i64 1] (by rfl) rfl rfl (by simp only [List.map_toArray, List.map_cons, List.map_nil]; rfl) ?_
      with_reducible refine (HS.out.putE kx x 1 _ _ HW5.out HW6.out HX1.out.1 (In64.of (by omega) (by omega))).mono ?_
      rintro e w5 ⟨⟨A_, c_, rfl, ho_⟩, hs_, hk_⟩
      refine ⟨_, rfl, ?_⟩
      refine hK.out _ _ ?_
      clear hK K
      refine norm_ (a' := ?_) ?_ ?_
      rotate_left
      · show Act.put _ (some 66) _ = _
        simp only [Act.put, List.setIfInBounds_toArray, List.set_cons_zero, List.set_cons_succ, i64_w, i32_w]
        rfl
      rw [HM.out] at hs_
      replace HS := Aside0.mk hs_
      clear hs_ hk_ ho_
      refine done_ (by kernel_rfl) ?_

      clear hk1 hk2 hk3 hk4
      obtain ⟨ad2, e2, cx2⟩ := at_u16 (Kd.C_below HC.out HS.out.bl) HXX2.out
      injection e2 with e2
      subst e2
      obtain ⟨kx2, HKX2⟩ : ∃ k, Aside0 (x2 % 3 = k) := ⟨_, ⟨rfl⟩⟩
      have hk1 : x2.tmod 3 = kx2 := by rw [← HKX2.out]; exact Int.tmod_eq_emod_of_nonneg hy0
      have hk2 : x2 % 3 = kx2 := HKX2.out
      have hk3 : 0 ≤ kx2 := by omega
      have hk4 : kx2 < 3 := by omega
      rw [hk2] at HM2 HN2 HX1
      go_wp2_with fail
      refine (HS.out.symm.put kx2 x2 1 HX1.out.2 (In64.of (by omega) (by omega))).mono ?_
      rintro e w8 ⟨⟨A_, c_, rfl, ho_⟩, hs_, hk_⟩
      rw [HM2.out] at hs_
      replace HS := Aside0.mk hs_.symm
      clear hs_ ho_ hk_
      go_wp2_with fail
      go_roundw
      case rel => exact ⟨i + 1, _, _, by omega, by go_num, HN1, HN2, HS⟩
      case measure => simp [intOf]; omega
    · obtain rfl : i = n := by omega
      obtain rfl : L1 = L2 := by
        have h1 := HI1.out
        have h2 := HI2.out
        rw [List.take_of_length_le (by rw [HL.out]; omega)] at h1
        rw [Nat.sub_self, List.drop_zero] at h2
        exact OrdI.same HGG.out.1 h1 h2
      clear hlt
      obtain ⟨m, HM⟩ : ∃ m, Aside0 ((L1.map chgOf).length = m) := ⟨_, ⟨rfl⟩⟩
      have hm1 : m ≤ 1024 := by rw [← HM.out, List.length_map]; exact HS.out.one.kv.2.2.2
      go_wp2_with fail
      refine (HS.out.one.list).mono ?_
      rintro e w9 ⟨v0, rfl, ho_, hb_⟩
      replace HS := Aside0.mk (HS.out.below hb_)
      obtain ⟨A9, c9, rfl, _, _⟩ := slice_of ho_
      rw [HM.out] at ho_ ⊢
      have HO9 := Aside0.mk ho_
      clear ho_ hb_
      go_wp2_with fail
      refine (HS.out.symm.one.list).mono ?_
      rintro e w10 ⟨v0, rfl, ho_, hb_⟩
      replace HS := Aside0.mk (HS.out.below hb_)
      replace HO9 := Aside0.mk (own_below HO9.out hb_)
      obtain ⟨A10, c10, rfl, _, _⟩ := slice_of ho_
      rw [HM.out] at ho_ ⊢
      have HO10 := Aside0.mk ho_
      clear ho_ hb_
      go_wp2_with fail
      refine (changes_same (L1.map chgOf) m HM.out (by omega) A9 c9 A10 c10 _ (C_own HO9.out).1 (C_own HO9.out).2 (C_own HO10.out).1 (C_own HO10.out).2).mono ?_
      rintro e w11 ⟨rfl, hb_⟩
      replace HS := Aside0.mk (HS.out.below hb_)
      clear hb_
      go_wp2_with fail
      go_ret
      exact ⟨rfl, HS.out.bl⟩
end Go.Proofs.Ytpjfmilokadchaa.Se
