/- (c03) Contracts of pack's readers: numbers (Reader.Ints). -/
import Derived.Test.YteanncfmaomhaaaRcI
namespace Go.Proofs.Yteanncfmaomhaaa.Pk
open Go Go.RowKit Go.Proofs.YteanncfmaomhaaaW.PrintWords Go.Proofs.YteanncfmaomhaaaW.PrintLast Go.Proofs.YteanncfmaomhaaaW.PrintMore
set_option linter.unusedVariables false
set_option linter.unusedSimpArgs false
/-- A reader's field was set. -/
theorem Rdr.set {w : World} {base b : Nat} {xs ys : List Int} {v : Value} (h : Rdr w base b xs) (hq : (Kd.int .u8).Q 5 w base (fun _ => True) v ys) (hy : Byt ys) : Rdr (w.setCell ⟨b, 0, none⟩ v) base b ys := by
  obtain ⟨h1, h2, v0, h3, h4⟩ := h
  exact ⟨h1, hy, v, by simp [World.setCell, Array.getElem?_modify, h3], Kd.Q_set hq h3 (by simp [Kd.int, Kd.scalar]) 0 _⟩
/-- A row of bytes lives on while a reader is read. -/
theorem Q_read {w w1 : World} {base base1 b : Nat} {xs ys : List Int} {v : Value} (hq : (Kd.int .u8).Q 5 w base (fun _ => True) v ys) (h : Rdr w base1 b xs) (hg : w.grownBy w1 (some b)) : (Kd.int .u8).Q 5 w1 base (fun _ => True) v ys := by
  obtain ⟨_, _, v0, h3, _⟩ := h
  exact Kd.Q_mono (Kd.Q_grown (Kd.Q_types hq h3 (by simp [Kd.int, Kd.scalar])) hg (fun k hk => by simpa using hk.2)) (fun _ _ => trivial)
theorem grown_set (w : World) (b : Nat) (v : Value) : w.grownBy (w.setCell ⟨b, 0, none⟩ v) (some b) :=
  ⟨rfl, rfl, rfl, by simp [World.setCell], fun k _ hk => Below.heap_setCell _ _ _ _ (fun e => hk (by rw [e]))⟩
theorem grown_trans {w w1 w2 : World} {r : Option Nat} (h : w.grownBy w1 r) (k : w1.grownBy w2 r) : w.grownBy w2 r :=
  ⟨k.os.trans h.os, k.tape.trans h.tape, k.output.trans h.output, Nat.le_trans h.size k.size, fun i hi hr => (k.block i (Nat.lt_of_lt_of_le hi h.size) hr).trans (h.block i hi hr)⟩
/-- What a reader's slot holds. -/
theorem Rdr.cell {w : World} {base b : Nat} {xs : List Int} (h : Rdr w base b xs) : ∃ A c, w.cell? ⟨b, 0, none⟩ = some (.slice A xs.length c) ∧ w.frozen? ⟨b, 0, none⟩ = false ∧ xs.length ≤ c ∧ (Kd.int .u8).Q 5 w base (fun _ => True) (.slice A xs.length c) xs := by
  obtain ⟨_, _, v, hb, hq⟩ := h
  obtain ⟨A, c, rfl, hc⟩ := Kd.Q_slice hq
  exact ⟨A, c, by simp [World.cell?, hb], by simp [World.frozen?, hb], hc, hq⟩

theorem infoInt : (Try.prog.info? 3).map (fun i => (i.zero, i.size, i.bytes)) = some (some (.int .i64 0), 1, 8) := by kernel_rfl
/-- A row of one's own lives on while a reader is read. -/
theorem R_read {α : Type} {d : Kd α} {e : Nat} {w w1 : World} {base base1 b : Nat} {xs : List Int} {ys : List α} {v : Value} (ht : ∀ q, q ∈ e :: d.E → q ≠ 84) (hq : d.R e w base (fun _ => True) v ys) (h : Rdr w base1 b xs) (hg : w.grownBy w1 (some b)) : d.R e w1 base (fun _ => True) v ys := by
  obtain ⟨_, _, v0, h3, _⟩ := h
  exact Kd.R_mono (Kd.R_grown (Kd.R_types hq h3 ht) hg (fun k hk => by simpa using hk.2)) (fun _ _ => trivial)
/-- A reader lives on while a row of another type is written. -/
theorem Rdr.own {α : Type} {d : Kd α} {e : Nat} {w w1 : World} {base base1 b : Nat} {xs : List Int} {ys : List α} {v : Value} {ok : Nat → Prop} (h : Rdr w base1 b xs) (hr : d.R e w base ok v ys) (h5 : e ≠ 5) (h6 : e ≠ 84) (hg : w.grownBy w1 v.ownBlock) : Rdr w1 base1 b xs := by
  obtain ⟨k1, k2, v0, k3, k4⟩ := h
  obtain ⟨inner, ho⟩ := Kd.R_own hr
  have hty := fun k hk => own_typed ho k hk
  have hne : some b ≠ v.ownBlock := fun hke => by
    obtain ⟨cells, hc⟩ := hty b hke.symm
    rw [k3] at hc
    injection hc with hc
    injection hc with _ hc
    exact h6 hc.symm
  refine ⟨k1, k2, v0, (hg.block b (Array.getElem?_eq_some_iff.1 k3).1 hne).trans k3, ?_⟩
  refine Kd.Q_mono (Kd.Q_grown (Kd.Q_bound k4) hg (fun k hk hke => ?_)) (fun _ _ => trivial)
  obtain ⟨_, _, _, q, hq, cells, hc⟩ := hk
  obtain ⟨cells', hc'⟩ := hty k hke.symm
  rw [hc] at hc'
  injection hc' with hc'
  injection hc' with _ hc'
  simp [Kd.int, Kd.scalar] at hq
  exact h5 (hc'.symm.trans hq)

def LPost (b : Nat) (m : Int) (xs : List Int) (base : Nat) (w : World) (e : Ending) (w' : World) : Prop :=
  ∃ v, e = .returned (.tuple #[v, .int .i64 (rdL m xs).2.1]) ∧ (Kd.int .i64).R 3 w' w.heap.size (fun _ => True) v (rdL m xs).1 ∧ Rdr w' base b (rdL m xs).2.2 ∧ w.grownBy w' (some b)
theorem LPost.bad {b : Nat} {m : Int} {xs : List Int} {base : Nat} {w w' : World} {e : Int} (h : rdL m xs = ([], e, xs)) (h1 : Rdr w' base b xs) (h2 : w.grownBy w' (some b)) : LPost b m xs base w (.returned (.tuple #[.slice none 0 0, .int .i64 e])) w' := by
  unfold LPost
  rw [h]
  exact ⟨_, rfl, Kd.R_nil _ _ _ _ _, h1, h2⟩
theorem LPost.good {b : Nat} {m : Int} {xs x r : List Int} {base : Nat} {w w' : World} {v : Value} (h : rdL m xs = (x, 0, r)) (h0 : (Kd.int .i64).R 3 w' w.heap.size (fun _ => True) v x) (h1 : Rdr w' base b r) (h2 : w.grownBy w' (some b)) : LPost b m xs base w (.returned (.tuple #[v, .int .i64 0])) w' := by
  unfold LPost
  rw [h]
  exact ⟨_, rfl, h0, h1, h2⟩
/-- What the loop knows. -/
structure LRel (b base B : Nat) (N : Nat) (r0 : List Int) (w1 : World) (i : Nat) (e : Int) (l r : List Int) (v : Value) (wr : World) : Prop where
  row : (Kd.int .i64).R 3 wr B (fun _ => True) v l
  rdr : Rdr wr base b r
  grown : w1.grownBy wr (some b)
  size : B ≤ wr.heap.size
  most : i ≤ N
  few : l.length ≤ i
  len : l.length + r.length ≤ r0.length + (if e = 0 then 0 else 1)
  good : e = 0 → InvI N r0 l (N - i) r
  bad : e ≠ 0 → (rdIs N r0).2.1 = e
theorem grown_below {w w1 w2 : World} {row : Option Nat} (h : w.grownBy w1 row) (hb : Below w.heap.size w1 w2) : w.grownBy w2 row :=
  ⟨hb.os.trans h.os, hb.tape.trans h.tape, hb.output.trans h.output, Nat.le_trans h.size hb.size, fun k hk hr => (hb.block k hk).trans (h.block k hk hr)⟩
/-- One number more (or an error). -/
theorem LRel.step {b base N : Nat} {r0 : List Int} {w1 wr w2 w3 : World} {i : Nat} {l r r2 : List Int} {v v3 : Value} {s e2 : Int} (h : LRel b base w1.heap.size N r0 w1 i 0 l r v wr) (hr2 : Rdr w2 base b r2) (hg2 : wr.grownBy w2 (some b))
    (hrow : (Kd.int .i64).R 3 w2 w1.heap.size (fun _ => True) v l) (hrow3 : (Kd.int .i64).R 3 w3 w1.heap.size (fun _ => True) v3 (l ++ [s])) (hb : Below w1.heap.size w2 w3) (hg : w2.grownBy w3 v.ownBlock)
    (hi : i + 1 ≤ N) (hlen : l.length + 1 + r2.length ≤ r0.length + (if e2 = 0 then 0 else 1)) (hgood : e2 = 0 → InvI N r0 (l ++ [s]) (N - (i + 1)) r2) (hbad : e2 ≠ 0 → (rdIs N r0).2.1 = e2) : LRel b base w1.heap.size N r0 w1 (i + 1) e2 (l ++ [s]) r2 v3 w3 :=
  ⟨hrow3, hr2.own hrow (by decide) (by decide) hg, grown_below (grown_trans h.grown hg2) hb, Nat.le_trans (Nat.le_trans h.size hg2.size) hb.size, hi, by have := h.few; rw [List.length_append, List.length_singleton]; omega, by simpa using hlen, hgood, hbad⟩
set_option maxHeartbeats 1000000 in
set_option maxRecDepth 100000 in
theorem ints_some (b : Nat) (m : Int) (xs : List Int) (base : Nat) (w : World) (h : Rdr w base b xs) (m0 : 0 ≤ m) (m1 : m ≤ 1000) :
    Calls Try.prog 42 #[.pointer (some ⟨b, 0, none⟩), .int .i64 m] w (LPost b m xs base w) := by
  have HR := Aside0.mk h
  have HX := Aside0.mk (rdU_range h.byt)
  have HXL := Aside0.mk (rdU_len xs)
  obtain ⟨A, c, hcell, hfz, hc, hq⟩ := h.cell
  have HQ := Aside0.mk hq
  clear h hq
  obtain ⟨n, hn⟩ : ∃ n, Aside0 ((rdU xs).1 = n) := ⟨_, ⟨rfl⟩⟩
  obtain ⟨e, he⟩ : ∃ n, Aside0 ((rdU xs).2.1 = n) := ⟨_, ⟨rfl⟩⟩
  obtain ⟨r, hr⟩ : ∃ n, Aside0 ((rdU xs).2.2 = n) := ⟨_, ⟨rfl⟩⟩
  rw [hn.out] at HX
  rw [hr.out] at HXL
  go_enter Try.func42, Try.ntmps42
  by_cases h1 : e = 0
  · by_cases h2 : m < 0 ∨ m < n
    · have h1b : (e == 0) = true := by simpa using h1
      have hfin : Aside0 (rdL m xs = ([], 2, xs)) := ⟨by unfold rdL; rw [he.out, if_neg (by simpa using h1), hn.out, if_pos h2]⟩
      have h3 : decide (m < 0) = true ∨ (decide (m < 0) = false ∧ decide (m < n) = true ∧ IntKind.u64.wrap m = m) := by
        by_cases h : m < 0
        · exact .inl (decide_eq_true h)
        · exact .inr ⟨decide_eq_false h, decide_eq_true (by omega), wrap_u64 (by omega) (by omega)⟩
      clear h1 h2
      have h0n : decide (0 < n) = true ∨ decide (0 < n) = false := by cases decide (0 < n) <;> simp
      rcases h3 with h3 | ⟨h3, h4, h5⟩ <;> rcases h0n with h0n | h0n
      all_goals
        go_wp2_with (go_at_call 29; refine (uint_some b xs base _ HR.out).mono ?_; rintro e w1 ⟨he1, k1, k2⟩; rw [hn.out, he.out] at he1; rw [hr.out] at k1; subst he1; obtain ⟨A1, c1, hcell1, hfz1, hc1, hq1⟩ := k1.cell; have HQ1 := Aside0.mk hq1; have HR1 := Aside0.mk k1; have HG := Aside0.mk k2; clear k1 k2 hq1)
        refine wp_loop_once ?_
        go_wp2
        go_ret2
        exact LPost.bad hfin.out (HR1.out.set (Q_read HQ.out HR.out HG.out) HR.out.byt) (grown_trans HG.out (grown_set _ _ _))
    · subst h1
      have n0 : 0 ≤ n := HX.out.1
      have h3 : decide (m < 0) = false := by simp; omega
      have h4 : decide (m < n) = false := by simp; omega
      have h5 : IntKind.u64.wrap m = m := wrap_u64 (by omega) (by omega)
      have hfin : Aside0 (rdL m xs = if (rdIs n.toNat r).2.1 ≠ 0 then ([], (rdIs n.toNat r).2.1, xs) else rdIs n.toNat r) := ⟨by unfold rdL; rw [he.out, if_neg (by simp), hn.out, if_neg h2, hr.out]⟩
      obtain ⟨N, rfl⟩ := Int.eq_ofNat_of_zero_le n0
      have hN : N ≤ 9223372036854775807 := by omega
      have HNM : Aside0 (N ≤ 1000) := ⟨by omega⟩
      clear h2
      go_wp2_with (go_at_call 29; refine (uint_some b xs base _ HR.out).mono ?_; rintro e w1 ⟨he1, k1, k2⟩; rw [hn.out, he.out] at he1; rw [hr.out] at k1; subst he1; obtain ⟨A1, c1, hcell1, hfz1, hc1, hq1⟩ := k1.cell; have HQ1 := Aside0.mk hq1; have HR1 := Aside0.mk k1; have HG := Aside0.mk k2; clear k1 k2 hq1)
      go_loopw [8, 9, 10] (fun v8 v9 v10 wr => ∃ (i : Nat) (e : Int) (l r' : List Int), v8 = .int .i64 e ∧ v10 = .int .u64 (i : Int) ∧ Aside0 (LRel b base w1.heap.size N r w1 i e l r' v9 wr)) (fun _ _ v10 _ => N - (intOf v10).toNat)
      case atStart => exact ⟨0, 0, [], r, rfl, rfl, ⟨⟨Kd.R_nil _ _ _ _ _, HR1.out, ⟨rfl, rfl, rfl, Nat.le_refl _, fun _ _ _ => rfl⟩, Nat.le_refl _, by omega, by simp, by simp, fun _ => invI_zero _ _, fun h => absurd rfl h⟩⟩⟩
      case round =>
        obtain ⟨i, e, l, r', rfl, rfl, HRL⟩ := hrel
        by_cases hi : i < N
        · by_cases hz : e = 0
          · subst hz
            have hib : decide ((i : Int) < (N : Int)) = true := by simpa using hi
            have HLEN : Aside0 (l.length + r'.length ≤ r.length) := ⟨by have h := HRL.out.len; simpa using h⟩
            have HFEW : Aside0 (l.length ≤ 1000) := ⟨by have := HRL.out.few; have := HNM.out; omega⟩
            have HBY := Aside0.mk HRL.out.rdr.byt
            obtain ⟨s, HS⟩ : ∃ s, Aside0 (sgn (rdU r').1 = s) := ⟨_, ⟨rfl⟩⟩
            obtain ⟨e2, HE⟩ : ∃ s, Aside0 ((rdU r').2.1 = s) := ⟨_, ⟨rfl⟩⟩
            obtain ⟨s0, s1⟩ : -9223372036854775808 ≤ s ∧ s ≤ 9223372036854775807 := by
              rw [← HS.out]
              exact sgn_range (rdU_range HBY.out).1 (rdU_range HBY.out).2
            by_cases hz : e2 = 0
            · have hzb : (e2 == 0) = true := by simpa using hz
              have HLS := Aside0.mk (rdU_less HBY.out (HE.out.trans hz))
              subst hz
              by_cases hw : s < -2147483648 ∨ 2147483647 < s
              · have hwb := wide_yes s0 s1 hw
                have hbad := Aside0.mk (invI_wide (k := N - i - 1) (by rw [show N - i - 1 + 1 = N - i by omega]; exact HRL.out.good rfl) HE.out (by rw [HS.out]; exact hw))
                clear hw
                go_wp2_with (first | (go_at_call 43; refine (int_some b r' base _ HRL.out.rdr).mono ?_; rintro e w2 ⟨he2, k1, k2⟩; rw [HS.out, HE.out] at he2; subst he2; have HR2 := Aside0.mk k1; have HG2 := Aside0.mk k2; have HROW := Aside0.mk (R_read (by simp [Kd.int, Kd.scalar]) HRL.out.row HRL.out.rdr k2); have HSZ := Aside0.mk (Nat.le_trans HRL.out.size k2.size); have HO := HROW; clear k1 k2) | ((with_reducible refine gate_builtin (b := .append) (xs := #[.tmp 58, .tmp 60]) rfl ?_); at_builtin; refine Kd.R_append (Kd.int .i64) (w0 := w2) w1.heap.size rfl (.tmp 58) (.tmp 60) 33 3 (.int .i64 0) 8 rfl Try.underlying33 infoInt rfl (by decide) (by omega) u9 l s [.int .i64 s] (fun _ => True) (fun _ => False) rfl rfl ?aP (fun _ hk => hk.elim) (fun _ _ => trivial) ?aO ?aB ?aS ?aL ?_; (try (case aP => exact rfl)); (case aB => exact (Below.refl _ _)); (case aO => exact (by (with_reducible repeat (first | apply Kd.R_alloc | apply Kd.R_drewN | apply Kd.R_drew)); exact HO.out)); (case aS => exact HSZ.out); (case aL => have := HFEW.out; omega); intro v61 w61 ho_ hb hg hat; have n0_ := Aside0.mk (ho_); clear HO; have HO := n0_; clear n0_; have HB3 := Aside0.mk hb; have HG3 := Aside0.mk hg; clear ho_ hb hg hat))
                go_roundw
                case rel => exact ⟨i + 1, 2, _, _, rfl, by go_num, ⟨HRL.out.step HR2.out HG2.out HROW.out HO.out HB3.out HG3.out hi (by have h1 := HLEN.out; have h2 := HLS.out; rw [if_neg (by omega)]; omega) (fun h => absurd h (by omega)) (fun _ => hbad.out)⟩⟩
                case measure => simp [intOf]; omega
              · have hwb := wide_no (s := s) (by omega) (by omega)
                have hnext := Aside0.mk (invI_next (k := N - (i + 1)) (by rw [show N - (i + 1) + 1 = N - i by omega]; exact HRL.out.good rfl) HE.out (by rw [HS.out]; omega) (by rw [HS.out]; omega))
                rw [HS.out] at hnext
                clear hw
                go_wp2_with (first | (go_at_call 43; refine (int_some b r' base _ HRL.out.rdr).mono ?_; rintro e w2 ⟨he2, k1, k2⟩; rw [HS.out, HE.out] at he2; subst he2; have HR2 := Aside0.mk k1; have HG2 := Aside0.mk k2; have HROW := Aside0.mk (R_read (by simp [Kd.int, Kd.scalar]) HRL.out.row HRL.out.rdr k2); have HSZ := Aside0.mk (Nat.le_trans HRL.out.size k2.size); have HO := HROW; clear k1 k2) | ((with_reducible refine gate_builtin (b := .append) (xs := #[.tmp 58, .tmp 60]) rfl ?_); at_builtin; refine Kd.R_append (Kd.int .i64) (w0 := w2) w1.heap.size rfl (.tmp 58) (.tmp 60) 33 3 (.int .i64 0) 8 rfl Try.underlying33 infoInt rfl (by decide) (by omega) u9 l s [.int .i64 s] (fun _ => True) (fun _ => False) rfl rfl ?aP (fun _ hk => hk.elim) (fun _ _ => trivial) ?aO ?aB ?aS ?aL ?_; (try (case aP => exact rfl)); (case aB => exact (Below.refl _ _)); (case aO => exact (by (with_reducible repeat (first | apply Kd.R_alloc | apply Kd.R_drewN | apply Kd.R_drew)); exact HO.out)); (case aS => exact HSZ.out); (case aL => have := HFEW.out; omega); intro v61 w61 ho_ hb hg hat; have n0_ := Aside0.mk (ho_); clear HO; have HO := n0_; clear n0_; have HB3 := Aside0.mk hb; have HG3 := Aside0.mk hg; clear ho_ hb hg hat))
                go_roundw
                case rel => exact ⟨i + 1, 0, _, _, rfl, by go_num, ⟨HRL.out.step HR2.out HG2.out HROW.out HO.out HB3.out HG3.out hi (by have h1 := HLEN.out; have h2 := HLS.out; rw [if_pos rfl]; omega) (fun _ => hnext.out) (fun h => absurd rfl h)⟩⟩
                case measure => simp [intOf]; omega
            · have hzb : (e2 == 0) = false := by simpa using hz
              have hbad := Aside0.mk (invI_bad (k := N - i - 1) (by rw [show N - i - 1 + 1 = N - i by omega]; exact HRL.out.good rfl) (by rw [HE.out]; exact hz))
              rw [HE.out] at hbad
              have HLS := Aside0.mk (rdU_len r')
              have HZ := Aside0.mk hz
              clear hz
              go_wp2_with (first | (go_at_call 43; refine (int_some b r' base _ HRL.out.rdr).mono ?_; rintro e w2 ⟨he2, k1, k2⟩; rw [HS.out, HE.out] at he2; subst he2; have HR2 := Aside0.mk k1; have HG2 := Aside0.mk k2; have HROW := Aside0.mk (R_read (by simp [Kd.int, Kd.scalar]) HRL.out.row HRL.out.rdr k2); have HSZ := Aside0.mk (Nat.le_trans HRL.out.size k2.size); have HO := HROW; clear k1 k2) | ((with_reducible refine gate_builtin (b := .append) (xs := #[.tmp 58, .tmp 60]) rfl ?_); at_builtin; refine Kd.R_append (Kd.int .i64) (w0 := w2) w1.heap.size rfl (.tmp 58) (.tmp 60) 33 3 (.int .i64 0) 8 rfl Try.underlying33 infoInt rfl (by decide) (by omega) u9 l s [.int .i64 s] (fun _ => True) (fun _ => False) rfl rfl ?aP (fun _ hk => hk.elim) (fun _ _ => trivial) ?aO ?aB ?aS ?aL ?_; (try (case aP => exact rfl)); (case aB => exact (Below.refl _ _)); (case aO => exact (by (with_reducible repeat (first | apply Kd.R_alloc | apply Kd.R_drewN | apply Kd.R_drew)); exact HO.out)); (case aS => exact HSZ.out); (case aL => have := HFEW.out; omega); intro v61 w61 ho_ hb hg hat; have n0_ := Aside0.mk (ho_); clear HO; have HO := n0_; clear n0_; have HB3 := Aside0.mk hb; have HG3 := Aside0.mk hg; clear ho_ hb hg hat))
              go_roundw
              case rel => exact ⟨i + 1, e2, _, _, rfl, by go_num, ⟨HRL.out.step HR2.out HG2.out HROW.out HO.out HB3.out HG3.out hi (by have h1 := HLEN.out; have h2 := HLS.out; rw [if_neg HZ.out]; omega) (fun h => absurd h HZ.out) (fun _ => hbad.out)⟩⟩
              case measure => simp [intOf]; omega
          · have hib : decide ((i : Int) < (N : Int)) = true := by simpa using hi
            have hzb : (e == 0) = false := by simpa using hz
            have hzc : (e != 0) = true := by simpa using hz
            have hbad := Aside0.mk (HRL.out.bad hz)
            have HZ := Aside0.mk hz
            have HR2 := Aside0.mk HRL.out.rdr
            have HG2 := Aside0.mk (grown_trans HG.out HRL.out.grown)
            obtain ⟨A2, c2, hcell2, hfz2, _, _⟩ := HR2.out.cell
            clear hz
            go_wp2
            go_ret2
            refine LPost.bad (hfin.out.trans ?_) (HR2.out.set (Q_read HQ.out HR.out HG2.out) HR.out.byt) (grown_trans HG2.out (grown_set _ _ _))
            rw [Int.toNat_natCast, hbad.out, if_pos HZ.out]
        · have hib : decide ((i : Int) < (N : Int)) = false := by simp; omega
          have HG2 := Aside0.mk (grown_trans HG.out HRL.out.grown)
          have HI := Aside0.mk (show i = N by have := HRL.out.most; omega)
          by_cases hz : e = 0
          · have hzc : (e != 0) = false := by simpa using hz
            have hend := Aside0.mk (invI_end (N := N) (r0 := r) (l := l) (r := r') (by have := HRL.out.good hz; rwa [HI.out, Nat.sub_self] at this))
            clear hz
            go_wp2
            go_ret2
            refine LPost.good (hfin.out.trans ?_) (Kd.R_lower HRL.out.row HG.out.size) HRL.out.rdr HG2.out
            rw [Int.toNat_natCast, hend.out, if_neg (by simp)]
          · have hzc : (e != 0) = true := by simpa using hz
            have hbad := Aside0.mk (HRL.out.bad hz)
            have HZ := Aside0.mk hz
            have HR2 := Aside0.mk HRL.out.rdr
            obtain ⟨A2, c2, hcell2, hfz2, _, _⟩ := HR2.out.cell
            clear hz
            go_wp2
            go_ret2
            refine LPost.bad (hfin.out.trans ?_) (HR2.out.set (Q_read HQ.out HR.out HG2.out) HR.out.byt) (grown_trans HG2.out (grown_set _ _ _))
            rw [Int.toNat_natCast, hbad.out, if_pos HZ.out]
  · have h1b : (e == 0) = false := by simpa using h1
    have h1c : (e != 0) = true := by simpa using h1
    have hfin : Aside0 (rdL m xs = ([], e, xs)) := ⟨by unfold rdL; rw [he.out, if_pos h1]⟩
    have h0n : decide (0 < n) = true ∨ decide (0 < n) = false := by cases decide (0 < n) <;> simp
    clear h1
    rcases h0n with h0n | h0n
    all_goals
      go_wp2_with (go_at_call 29; refine (uint_some b xs base _ HR.out).mono ?_; rintro e w1 ⟨he1, k1, k2⟩; rw [hn.out, he.out] at he1; rw [hr.out] at k1; subst he1; obtain ⟨A1, c1, hcell1, hfz1, hc1, hq1⟩ := k1.cell; have HQ1 := Aside0.mk hq1; have HR1 := Aside0.mk k1; have HG := Aside0.mk k2; clear k1 k2 hq1)
      refine wp_loop_once ?_
      go_wp2
      go_ret2
      exact LPost.bad hfin.out (HR1.out.set (Q_read HQ.out HR.out HG.out) HR.out.byt) (grown_trans HG.out (grown_set _ _ _))
end Go.Proofs.Yteanncfmaomhaaa.Pk
