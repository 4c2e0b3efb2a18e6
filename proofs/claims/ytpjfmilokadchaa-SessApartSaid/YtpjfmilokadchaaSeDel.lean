/- (c14) slices.IndexFunc and slices.DeleteFunc at changes and at sessions; what the question does is left open. -/
import Derived.Test.YtpjfmilokadchaaSeRow
import Derived.Laws.EntriesVeiled
namespace Go.Proofs.Ytpjfmilokadchaa.Se
open Go Go.RowKit Go.Proofs.YtpjfmilokadchaaW.PrintWords Go.Proofs.YtpjfmilokadchaaW.PrintLast Go.Proofs.YtpjfmilokadchaaW.PrintMore Go.Proofs.Ytpjfmilokadchaa.Rw Go.Proofs.Ytpjfmilokadchaa.Ex
set_option linter.unusedVariables false
set_option linter.unusedSimpArgs false
attribute [local go_sem] run_store_span

theorem cellsC_own {w : World} {base n g c : Nat} {L : List S33} (hown : w.ownsRow base 33 5 (.slice (some ⟨g, 0, none⟩) n c) n (cellsC L)) {t : Nat} {p : S33} (hp : L[t]? = some p) :
    w.cell? ⟨g, t * 5, none⟩ = some (.int .i64 p.f0) ∧ w.cell? ⟨g, t * 5 + 1, none⟩ = some (.int .i64 p.f1) ∧ w.cell? ⟨g, t * 5 + 2, none⟩ = some (.int .i64 p.f2) ∧ w.cell? ⟨g, t * 5 + 3, none⟩ = some (.int .i64 p.f3) ∧ w.cell? ⟨g, t * 5 + 4, none⟩ = some (.bool p.f4) := by
  have h1 := cellsC_at hp
  have h2 := (List.getElem?_eq_some_iff.1 h1.1).1
  have h3 := hown.1
  obtain ⟨g2, cap, cur, rest, e1, hbg, hg, hnc, hcm, hxl, hrl, hcur⟩ := own_open hown (by omega)
  injection e1 with e1
  injection e1 with e1
  injection e1 with e1
  subst e1
  obtain ⟨q0, q1, q2, q3, q4⟩ := h1
  have l0 := (List.getElem?_eq_some_iff.1 q0).1
  have l1 := (List.getElem?_eq_some_iff.1 q1).1
  have l2 := (List.getElem?_eq_some_iff.1 q2).1
  have l3 := (List.getElem?_eq_some_iff.1 q3).1
  have l4 := (List.getElem?_eq_some_iff.1 q4).1
  refine ⟨?_, ?_, ?_, ?_, ?_⟩
  · rw [cell_row hg hcur, List.getElem?_append_left (by omega)]; exact q0
  · rw [cell_row hg hcur, List.getElem?_append_left (by omega)]; exact q1
  · rw [cell_row hg hcur, List.getElem?_append_left (by omega)]; exact q2
  · rw [cell_row hg hcur, List.getElem?_append_left (by omega)]; exact q3
  · rw [cell_row hg hcur, List.getElem?_append_left (by omega)]; exact q4
theorem setC_own {w : World} {base n g c : Nat} {L : List S33} (hown : w.ownsRow base 33 5 (.slice (some ⟨g, 0, none⟩) n c) n (cellsC L)) {i : Nat} (p : S33) {q : S33} (hq : L[i]? = some q) :
    ((((((w).setCell ⟨g, i * 5, none⟩ (.int .i64 p.f0)).setCell ⟨g, i * 5 + 1, none⟩ (.int .i64 p.f1)).setCell ⟨g, i * 5 + 2, none⟩ (.int .i64 p.f2)).setCell ⟨g, i * 5 + 3, none⟩ (.int .i64 p.f3)).setCell ⟨g, i * 5 + 4, none⟩ (.bool p.f4)).ownsRow base 33 5 (.slice (some ⟨g, 0, none⟩) n c) n (cellsC (L.set i p)) := by
  have hi := (List.getElem?_eq_some_iff.1 hq).1
  rw [← cellsC_set p hq]
  exact own_set (own_set (own_set (own_set (own_set (hown) (i * 5) (.int .i64 p.f0) (by simp only [List.length_set, cellsC_len]; omega)) (i * 5 + 1) (.int .i64 p.f1) (by simp only [List.length_set, cellsC_len]; omega)) (i * 5 + 2) (.int .i64 p.f2) (by simp only [List.length_set, cellsC_len]; omega)) (i * 5 + 3) (.int .i64 p.f3) (by simp only [List.length_set, cellsC_len]; omega)) (i * 5 + 4) (.bool p.f4) (by simp only [List.length_set, cellsC_len]; omega)
/-- What a question leaves: no block of the elements' kind is turned. -/
def KeepC (w w' : World) : Prop := w.heap.size ≤ w'.heap.size ∧ ∀ (k : Nat) (cs : Array Value), w.heap[k]? = some (.cells cs 33 (0, 0)) → w'.heap[k]? = some (.cells cs 33 (0, 0))
theorem KeepC.refl (w : World) : KeepC w w := ⟨Nat.le_refl _, fun _ _ h => h⟩
theorem KeepC.trans {a b c : World} (h : KeepC a b) (k : KeepC b c) : KeepC a c := ⟨Nat.le_trans h.1 k.1, fun i cs hc => k.2 i cs (h.2 i cs hc)⟩
theorem KeepC.below {a b : World} (h : Below a.heap.size a b) : KeepC a b := ⟨h.size, fun i cs hc => blk_below hc h⟩
theorem KeepC.own {w w' : World} (h : KeepC w w') {base n : Nat} {v : Value} {xs : List Value} (ho : w.ownsRow base 33 5 v n xs) : w'.ownsRow base 33 5 v n xs :=
  own_kept ho fun k hk => by obtain ⟨cur, hc⟩ := own_block ho hk; rw [h.2 k cur hc, hc]
def IdxC (n : Nat) (L : List S33) (d : S33 → Bool) (I : Nat → World → Prop) (w : World) (e : Ending) (w' : World) : Prop :=
  (∃ t : Nat, (t < n ∧ (∃ p, L[t]? = some p ∧ d p = true) ∧ (∀ j, j < t → ∀ p, L[j]? = some p → d p = false) ∧ I (t + 1) w' ∧ KeepC w w') ∧ e = .returned (.int .i64 (t : Int))) ∨
  ((∀ j, j < n → ∀ p, L[j]? = some p → d p = false) ∧ I n w' ∧ KeepC w w' ∧ e = .returned (.int .i64 (-1)))
set_option maxHeartbeats 1000000 in
theorem idxC_ok (base n c g x0 : Nat) (L : List S33) (d : S33 → Bool) (I : Nat → World → Prop) (w : World) (hn : L.length = n) (hn5 : n ≤ 5000) (hown : w.ownsRow base 33 5 (.slice (some ⟨g, 0, none⟩) n c) n (cellsC L)) (hI : I 0 w)
    (hcall : ∀ (t : Nat) (p : S33) (w1 : World), L[t]? = some p → I t w1 → Calls Try.prog 24 #[.agg #[.int .i64 p.f0, .int .i64 p.f1, .int .i64 p.f2, .int .i64 p.f3, .bool p.f4], .pointer (some ⟨x0, 0, none⟩)] w1 fun e w' => e = .returned (.bool (d p)) ∧ I (t + 1) w' ∧ KeepC w1 w') :
    Calls Try.prog 32 #[.slice (some ⟨g, 0, none⟩) n c, .func (.func 24) #[] #[.pointer (some ⟨x0, 0, none⟩)]] w (IdxC n L d I w) := by
  have HO := Aside0.mk hown
  have HN := Aside0.mk hn
  have HC := Aside0.mk hcall
  have HI := Aside0.mk hI
  have HK := Aside0.mk (KeepC.refl w)
  clear hown hn hcall hI
  go_enter Try.func32, Try.ntmps32
  go_wp2_with fail
  go_loopw [8] (fun v8 wr => ∃ k : Nat, k ≤ n ∧ v8 = .int .i64 (k : Int) ∧ Aside0 (∀ j, j < k → ∀ p, L[j]? = some p → d p = false) ∧ Aside0 (I k wr) ∧ Aside0 (KeepC w wr)) (fun v8 _ => n - (intOf v8).toNat)
  case atStart => exact ⟨0, Nat.zero_le _, rfl, ⟨fun j hj => absurd hj (Nat.not_lt_zero _)⟩, HI, HK⟩
  case round =>
    clear HI HK
    obtain ⟨k, hk, rfl, HF, HI, HK⟩ := hrel
    by_cases hlt : k < n
    · have h1 : decide ((k : Int) < (n : Int)) = true := by simp; omega
      have h1b : decide (k < n) = true := by simp; omega
      obtain ⟨p, hp⟩ : ∃ p, L[k]? = some p := ⟨_, List.getElem?_eq_getElem (by rw [HN.out]; omega)⟩
      have HP := Aside0.mk hp
      obtain ⟨y0, y1, y2, y3, y4⟩ := cellsC_own (HK.out.own HO.out) hp
      have HCK := Aside0.mk (HC.out k p wr hp HI.out)
      clear hp
      go_wp2_with fail
      refine HCK.out.mono ?_
      rintro e w2 ⟨rfl, hi_, hk_⟩
      replace HI := Aside0.mk hi_
      replace HK := Aside0.mk (HK.out.trans hk_)
      clear hi_ hk_ HCK y0 y1 y2 y3 y4
      obtain ⟨b, HB⟩ : ∃ b, Aside0 (d p = b) := ⟨_, ⟨rfl⟩⟩
      rw [HB.out]
      cases b with
      | true =>
        have HPost : Aside0 (IdxC n L d I w (.returned (.int .i64 (k : Int))) w2) := ⟨.inl ⟨k, ⟨hlt, ⟨p, HP.out, HB.out⟩, HF.out, HI.out, HK.out⟩, rfl⟩⟩
        go_wp2_with fail
        go_ret
        exact HPost.out
      | false =>
        have HF2 : Aside0 (∀ j, j < k + 1 → ∀ p, L[j]? = some p → d p = false) := ⟨fun j hj p' hp' => by
          by_cases e : j = k
          · subst e
            rw [HP.out] at hp'
            injection hp' with hp'
            rw [← hp']; exact HB.out
          · exact HF.out j (by omega) p' hp'⟩
        go_wp2_with fail
        go_roundw
        case rel => exact ⟨k + 1, by omega, by go_num, HF2, HI, HK⟩
        case measure => simp [intOf]; omega
    · obtain rfl : k = n := by omega
      have HPost : Aside0 (IdxC k L d I w (.returned (.int .i64 (-1))) wr) := ⟨.inr ⟨HF.out, HI.out, HK.out, rfl⟩⟩
      clear hlt hk
      go_wp2_with fail
      go_ret
      exact HPost.out
theorem take_filterC {L : List S33} {d : S33 → Bool} {j : Nat} {p : S33} (h : L[j]? = some p) : (L.take (j + 1)).filter (fun x => !d x) = (L.take j).filter (fun x => !d x) ++ (if d p = true then [] else [p]) := by
  obtain ⟨hl, rfl⟩ := List.getElem?_eq_some_iff.1 h
  rw [List.take_succ_eq_append_getElem hl, List.filter_append]
  cases hd : d L[j] <;> simp [List.filter_cons, hd]
theorem none_filterC {L : List S33} {d : S33 → Bool} (t : Nat) (h : ∀ j, j < t → ∀ p, L[j]? = some p → d p = false) : (L.take t).filter (fun x => !d x) = L.take t := by
  rw [List.filter_eq_self]
  intro x hx
  obtain ⟨j, hj, rfl⟩ := List.getElem_of_mem hx
  have hj' := hj
  rw [List.length_take] at hj'
  rw [List.getElem_take]
  rw [h j (by omega) _ (List.getElem?_eq_getElem (by omega))]
  rfl
theorem take_setC {R : List S33} {i : Nat} {p : S33} (h : i < R.length) : (R.set i p).take (i + 1) = R.take i ++ [p] := by
  rw [List.set_eq_take_append_cons_drop, if_pos h, List.take_append, List.length_take, show i + 1 - min i R.length = 1 by omega, List.take_of_length_le (by rw [List.length_take]; omega)]
  rfl
def DelC (base c g n : Nat) (K : List S33) (I : Nat → World → Prop) (w : World) (e : Ending) (w' : World) : Prop :=
  ∃ m : Nat, e = .returned (.slice (some ⟨g, 0, none⟩) m c) ∧ K.length = m ∧ w'.ownsRow base 33 5 (.slice (some ⟨g, 0, none⟩) m c) m (cellsC K) ∧ I n w' ∧ w.heap.size ≤ w'.heap.size
set_option maxHeartbeats 4000000 in
set_option maxRecDepth 100000 in
theorem delC_ok (base n c g x0 : Nat) (L : List S33) (d : S33 → Bool) (I : Nat → World → Prop) (w : World) (hn : L.length = n) (hn5 : n ≤ 5000) (hown : w.ownsRow base 33 5 (.slice (some ⟨g, 0, none⟩) n c) n (cellsC L)) (hI : I 0 w)
    (hcall : ∀ (t : Nat) (p : S33) (w1 : World), L[t]? = some p → I t w1 → Calls Try.prog 24 #[.agg #[.int .i64 p.f0, .int .i64 p.f1, .int .i64 p.f2, .int .i64 p.f3, .bool p.f4], .pointer (some ⟨x0, 0, none⟩)] w1 fun e w' => e = .returned (.bool (d p)) ∧ I (t + 1) w' ∧ KeepC w1 w')
    (hmove : ∀ (t : Nat) (w1 w2 : World), I t w1 → Chg w1 w2 (fun k => k = g) → (∃ cs, w1.heap[g]? = some (.cells cs 33 (0, 0))) → I t w2) :
    Calls Try.prog 23 #[.slice (some ⟨g, 0, none⟩) n c, .func (.func 24) #[] #[.pointer (some ⟨x0, 0, none⟩)]] w (DelC base c g n (L.filter fun x => !d x) I w) := by
  have HO := Aside0.mk hown
  have HN := Aside0.mk hn
  have HC := Aside0.mk hcall
  have HM := Aside0.mk hmove
  have HX := Aside0.mk (idxC_ok base n c g x0 L d I w hn hn5 hown hI hcall)
  obtain ⟨F, HF⟩ : ∃ F, Aside0 (L.filter (fun x => !d x) = F) := ⟨_, ⟨rfl⟩⟩
  rw [HF.out]
  have hnc : n ≤ c := by obtain ⟨_, _, e, h, _⟩ := slice_of hown; injection e with _ _ e; omega
  have hcm : c ≤ 9223372036854775807 := by obtain ⟨_, _, e, _, h⟩ := slice_of hown; injection e with _ _ e; subst e; exact Nat.le_trans h (by decide)
  clear hown hn hcall hI hmove
  go_enter Try.func23, Try.ntmps23
  go_wp2_with fail
  refine HX.out.mono ?_
  rintro e w1 hpost
  rcases hpost with ⟨t, ⟨htn, ⟨p0, hp0, hd0⟩, hf0, hi0, hk0⟩, rfl⟩ | ⟨hf0, hi0, hk0, rfl⟩
  · have ht1 : ((t : Int) == -1) = false := by simp
    have HS : Aside0 (L.length = n ∧ L.take t = (L.take (t + 1)).filter (fun x => !d x) ∧ w1.ownsRow base 33 5 (.slice (some ⟨g, 0, none⟩) n c) n (cellsC L) ∧ I (t + 1) w1 ∧ w.heap.size ≤ w1.heap.size) :=
      ⟨⟨HN.out, by rw [take_filterC hp0, if_pos hd0, List.append_nil, none_filterC t hf0], hk0.own HO.out, hi0, hk0.1⟩⟩
    clear hp0 hd0 hf0 hi0 hk0 HO HX
    go_wp2_with fail
    go_loopw [5, 6] (fun v5 v6 wr => ∃ (i j : Nat) (R : List S33), v5 = .int .i64 (i : Int) ∧ v6 = .int .i64 (j : Int) ∧ i < j ∧ j ≤ n ∧ Aside0 (R.length = n ∧ R.take i = (L.take j).filter (fun x => !d x) ∧ wr.ownsRow base 33 5 (.slice (some ⟨g, 0, none⟩) n c) n (cellsC R) ∧ I j wr ∧ w.heap.size ≤ wr.heap.size) ∧ Aside0 (R.drop j = L.drop j)) (fun _ v6 _ => n - (intOf v6).toNat)
    case atStart => exact ⟨t, t + 1, L, rfl, by go_num, by omega, htn, HS, ⟨rfl⟩⟩
    case round =>
      clear HS
      obtain ⟨i, j, R, rfl, rfl, hij, hjn, HS, HD⟩ := hrel
      by_cases hlt : j < n
      · have h1 : decide ((j : Int) < (n : Int)) = true := by simp; omega
        have h1b : decide (j < n) = true := by simp; omega
        obtain ⟨p, hp⟩ : ∃ p, L[j]? = some p := ⟨_, List.getElem?_eq_getElem (by rw [HN.out]; omega)⟩
        have HP := Aside0.mk hp
        have hpR : R[j]? = some p := by
          have e2 : (R.drop j)[0]? = (L.drop j)[0]? := by rw [HD.out]
          rw [List.getElem?_drop, List.getElem?_drop, Nat.add_zero] at e2
          rw [e2]; exact hp
        obtain ⟨q, hq⟩ : ∃ q, R[i]? = some q := ⟨_, List.getElem?_eq_getElem (by rw [HS.out.1]; omega)⟩
        have HQ := Aside0.mk hq
        have HDD : Aside0 (R.drop (j + 1) = L.drop (j + 1)) := ⟨by rw [← List.drop_drop, ← List.drop_drop, HD.out]⟩
        obtain ⟨y0, y1, y2, y3, y4⟩ := cellsC_own HS.out.2.2.1 hpR
        clear hp hpR hq
        go_upto_region 8 with fail
        clear y0 y1 y2 y3 y4
        have HV := Aside0.mk (heap_alloc_new wr (.cells #[.int .i64 p.f0, .int .i64 p.f1, .int .i64 p.f2, .int .i64 p.f3, .bool p.f4] 33))
        have HBL := Aside0.mk (below_alloc (Below.refl wr.heap.size wr) (.cells #[.int .i64 p.f0, .int .i64 p.f1, .int .i64 p.f2, .int .i64 p.f3, .bool p.f4] 33))
        generalize wr.alloc (.cells #[.int .i64 p.f0, .int .i64 p.f1, .int .i64 p.f2, .int .i64 p.f3, .bool p.f4] 33) = wa at HV HBL ⊢
        have hfw : ∃ cs, wr.heap[g]? = some (.cells cs 33 (0, 0)) := own_block HS.out.2.2.1 rfl
        have HCK := Aside0.mk (HC.out j p wa HP.out (HM.out j wr wa HS.out.2.2.2.1 (Chg.of_below HBL.out) hfw))
        have HOA := Aside0.mk (own_below HS.out.2.2.1 HBL.out)
        have HSZ : Aside0 (w.heap.size ≤ wa.heap.size) := ⟨Nat.le_trans HS.out.2.2.2.2 HBL.out.size⟩
        obtain ⟨gv, HGV⟩ : ∃ g, Aside0 (wr.heap.size = g) := ⟨_, ⟨rfl⟩⟩
        rw [HGV.out] at HV ⊢
        clear hfw HBL
        have v0_ := (blk_cell HV.out 0).trans (rfl : _ = some (.int .i64 p.f0 : Value))
        have v1_ := (blk_cell HV.out 1).trans (rfl : _ = some (.int .i64 p.f1 : Value))
        have v2_ := (blk_cell HV.out 2).trans (rfl : _ = some (.int .i64 p.f2 : Value))
        have v3_ := (blk_cell HV.out 3).trans (rfl : _ = some (.int .i64 p.f3 : Value))
        have v4_ := (blk_cell HV.out 4).trans (rfl : _ = some (.bool p.f4 : Value))
        go_wp2_with fail
        refine HCK.out.mono ?_
        rintro e w3 ⟨rfl, hi_, hk_⟩
        have HI3 := Aside0.mk hi_
        have HO3 := Aside0.mk (hk_.own HOA.out)
        have HV3 := Aside0.mk (hk_.2 gv _ HV.out)
        replace HSZ := Aside0.mk (Nat.le_trans HSZ.out hk_.1)
        clear hi_ hk_ HCK HOA HV v0_ v1_ v2_ v3_ v4_
        obtain ⟨b, HB⟩ : ∃ b, Aside0 (d p = b) := ⟨_, ⟨rfl⟩⟩
        rw [HB.out]
        cases b with
        | true =>
          go_wp2_with fail
          go_roundw
          case rel => exact ⟨i, j + 1, R, rfl, by go_num, by omega, by omega, ⟨HS.out.1, by rw [take_filterC HP.out, if_pos HB.out, List.append_nil]; exact HS.out.2.1, HO3.out, HI3.out, HSZ.out⟩, HDD⟩
          case measure => simp [intOf]; omega
        | false =>
          have v0_ := (blk_cell HV3.out 0).trans (rfl : _ = some (.int .i64 p.f0 : Value))
          have v1_ := (blk_cell HV3.out 1).trans (rfl : _ = some (.int .i64 p.f1 : Value))
          have v2_ := (blk_cell HV3.out 2).trans (rfl : _ = some (.int .i64 p.f2 : Value))
          have v3_ := (blk_cell HV3.out 3).trans (rfl : _ = some (.int .i64 p.f3 : Value))
          have v4_ := (blk_cell HV3.out 4).trans (rfl : _ = some (.bool p.f4 : Value))
          obtain ⟨c0_, c1_, c2_, c3_, c4_⟩ := cellsC_own HO3.out HQ.out
          obtain ⟨cur, hcur⟩ := own_block HO3.out (k := g) rfl
          have f0_ := blk_frozen hcur (i * 5)
          have f1_ := blk_frozen hcur (i * 5 + 1)
          have f2_ := blk_frozen hcur (i * 5 + 2)
          have f3_ := blk_frozen hcur (i * 5 + 3)
          have f4_ := blk_frozen hcur (i * 5 + 4)
          have HRS : Aside0 (((((((w3).setCell ⟨g, i * 5, none⟩ (.int .i64 p.f0)).setCell ⟨g, i * 5 + 1, none⟩ (.int .i64 p.f1)).setCell ⟨g, i * 5 + 2, none⟩ (.int .i64 p.f2)).setCell ⟨g, i * 5 + 3, none⟩ (.int .i64 p.f3)).setCell ⟨g, i * 5 + 4, none⟩ (.bool p.f4)).ownsRow base 33 5 (.slice (some ⟨g, 0, none⟩) n c) n (cellsC (R.set i p))) := ⟨setC_own HO3.out p HQ.out⟩
          have HIS : Aside0 (I (j + 1) ((((((w3).setCell ⟨g, i * 5, none⟩ (.int .i64 p.f0)).setCell ⟨g, i * 5 + 1, none⟩ (.int .i64 p.f1)).setCell ⟨g, i * 5 + 2, none⟩ (.int .i64 p.f2)).setCell ⟨g, i * 5 + 3, none⟩ (.int .i64 p.f3)).setCell ⟨g, i * 5 + 4, none⟩ (.bool p.f4))) := ⟨HM.out (j + 1) w3 _ HI3.out (Chg.set (Chg.set (Chg.set (Chg.set (Chg.set (Chg.refl w3 (fun k => k = g)) (p := ⟨g, i * 5, none⟩) rfl (.int .i64 p.f0)) (p := ⟨g, i * 5 + 1, none⟩) rfl (.int .i64 p.f1)) (p := ⟨g, i * 5 + 2, none⟩) rfl (.int .i64 p.f2)) (p := ⟨g, i * 5 + 3, none⟩) rfl (.int .i64 p.f3)) (p := ⟨g, i * 5 + 4, none⟩) rfl (.bool p.f4)) ⟨cur, hcur⟩⟩
          have HSZ2 : Aside0 (w.heap.size ≤ ((((((w3).setCell ⟨g, i * 5, none⟩ (.int .i64 p.f0)).setCell ⟨g, i * 5 + 1, none⟩ (.int .i64 p.f1)).setCell ⟨g, i * 5 + 2, none⟩ (.int .i64 p.f2)).setCell ⟨g, i * 5 + 3, none⟩ (.int .i64 p.f3)).setCell ⟨g, i * 5 + 4, none⟩ (.bool p.f4)).heap.size) := ⟨by simpa using HSZ.out⟩
          clear hcur
          go_upto_region 10 with fail
          clear v0_ c0_ f0_ v1_ c1_ f1_ v2_ c2_ f2_ v3_ c3_ f3_ v4_ c4_ f4_
          generalize (((((w3).setCell ⟨g, i * 5, none⟩ (.int .i64 p.f0)).setCell ⟨g, i * 5 + 1, none⟩ (.int .i64 p.f1)).setCell ⟨g, i * 5 + 2, none⟩ (.int .i64 p.f2)).setCell ⟨g, i * 5 + 3, none⟩ (.int .i64 p.f3)).setCell ⟨g, i * 5 + 4, none⟩ (.bool p.f4) = w4 at HRS HIS HSZ2 ⊢
          go_wp2_with fail
          go_roundw
          case rel => exact ⟨i + 1, j + 1, R.set i p, by go_num, by go_num, by omega, by omega, ⟨by rw [List.length_set]; exact HS.out.1, by rw [take_setC (by rw [HS.out.1]; omega), take_filterC HP.out, if_neg (by rw [HB.out]; simp), HS.out.2.1], HRS.out, HIS.out, HSZ2.out⟩, ⟨by rw [List.drop_set_of_lt (by omega)]; exact HDD.out⟩⟩
          case measure => simp [intOf]; omega
      · obtain rfl : n = j := by omega
        obtain ⟨g2, cap, cur, rest, e1, hbg, hg, hnc2, hcm2, hxl, hrl, hcur⟩ := own_open HS.out.2.2.1 (by omega)
        injection e1 with e1 _ e3
        injection e1 with e1
        injection e1 with e1 _ _
        subst e1 e3
        have HFR : Aside0 (R.take i = F) := ⟨by rw [HS.out.2.1, ← HN.out, List.take_length, HF.out]⟩
        have hcs : cur.size = c * 5 := by rw [← Array.length_toList, hcur, List.length_append]; omega
        have hit : i * 5 + (n - i) * 5 = n * 5 := by omega
        obtain ⟨Zs, hZ⟩ : ∃ Zs : List Value, Zs = (Builtin.zeroCells (Value.agg #[.int .i64 0, .int .i64 0, .int .i64 0, .int .i64 0, .bool false]).cells (n - i)).toList := ⟨_, rfl⟩
        have hlz : Zs.length = (n - i) * 5 := by rw [hZ]; simp [Builtin.zeroCells, Value.cells]
        obtain ⟨c2, hc2⟩ : ∃ c2 : Array Value, c2 = (cur.toList.take (i * 5) ++ Zs ++ cur.toList.drop (i * 5 + (n - i) * 5)).toArray := ⟨_, rfl⟩
        have hcl : ∀ ty cc, (Builtin.clear_ #[29] ty #[.slice (some ⟨g, i * 5, none⟩) (n - i) cc]).run Try.prog wr = .ok (.tuple #[]) (wr.setRow g c2) := fun ty cc => by
          rw [hc2, hZ]
          exact run_clear_row wr 29 ty 33 _ 5 g _ _ cc cur 33 Try.underlying29 zeroC rfl (by omega) (by intro v hv; simp [Value.cells] at hv; rcases hv with rfl | rfl <;> rfl) hg (by rw [hcs]; omega)
        have hl1 : (cellsC R).length = n * 5 := by rw [cellsC_len, HS.out.1]
        have HRW : Aside0 ((wr.setRow g c2).ownsRow base 33 5 (.slice (some ⟨g, 0, none⟩) i c) i (cellsC F)) := ⟨by
          refine own_mk (rest := Zs ++ rest) hbg (setRow_heap wr _ _ _ _ _ hg) (by omega) hcm2 (by rw [← HFR.out, cellsC_len, List.length_take, HS.out.1]; omega) (by rw [List.length_append, hlz]; omega) ?_
          rw [hc2, hcur, List.toList_toArray, ← HFR.out, cellsC_take, List.take_append_of_le_length (by omega), drop_app (cellsC R) rest 0 (by omega), List.drop_zero, List.append_assoc]⟩
        have HIR : Aside0 (I n (wr.setRow g c2)) := ⟨HM.out n wr _ HS.out.2.2.2.1 ((Chg.of_grown (grown_set wr g c2)).mono fun k hk => by injection hk) ⟨cur, hg⟩⟩
        have HSR : Aside0 (w.heap.size ≤ (wr.setRow g c2).heap.size) := ⟨by simpa using HS.out.2.2.2.2⟩
        have HPost : Aside0 (DelC base c g n F I w (.returned (.slice (some ⟨g, 0, none⟩) i c)) (wr.setRow g c2)) := ⟨⟨i, rfl, by rw [← HFR.out, List.length_take, HS.out.1]; omega, HRW.out, HIR.out, HSR.out⟩⟩
        have hic : i < c := by omega
        have hin : (i : Int) ≤ (n : Int) := by omega
        have hin2 : i ≤ n := by omega
        have hicn : ¬ (c = i) := by omega
        clear hg hcur hxl hrl hc2 hZ hlz hcs hl1 hit hlt hjn HRW HIR HSR
        go_wp2_with fail
        go_ret
        exact HPost.out
  · have HFL : Aside0 (F = L) := ⟨by rw [← HF.out]; have := none_filterC n hf0; rwa [← HN.out, List.take_length] at this⟩
    have HPost : Aside0 (DelC base c g n F I w (.returned (.slice (some ⟨g, 0, none⟩) n c)) w1) := ⟨⟨n, rfl, by rw [HFL.out]; exact HN.out, by rw [HFL.out]; exact hk0.own HO.out, hi0, hk0.1⟩⟩
    clear hf0 hi0 hk0
    go_wp2_with fail
    go_ret
    exact HPost.out
/-- A row that is none. -/
theorem delC_nil (x0 : Nat) (w : World) : Calls Try.prog 23 #[.slice none 0 0, .func (.func 24) #[] #[.pointer (some ⟨x0, 0, none⟩)]] w fun e w' => e = .returned (.slice none 0 0) ∧ w = w' := by
  have HX : Aside0 (Calls Try.prog 32 #[.slice none 0 0, .func (.func 24) #[] #[.pointer (some ⟨x0, 0, none⟩)]] w fun e w' => e = .returned (.int .i64 (-1)) ∧ w = w') := ⟨by
    go_enter Try.func32, Try.ntmps32
    go_wp2_with fail
    refine wp_loop_rounds 2 ?_
    rw [rounds_succ]
    go_wp2
    go_ret
    exact ⟨rfl, rfl⟩⟩
  go_enter Try.func23, Try.ntmps23
  go_wp2_with fail
  refine HX.out.mono ?_
  rintro e w1 ⟨rfl, rfl⟩
  go_wp2_with fail
  go_ret
  exact ⟨rfl, rfl⟩


theorem cellsS_own {w : World} {base n g c : Nat} {L : List Ses} (hown : w.ownsRow base 53 3 (.slice (some ⟨g, 0, none⟩) n c) n (cellsS L)) {t : Nat} {p : Ses} (hp : L[t]? = some p) :
    w.cell? ⟨g, t * 3, none⟩ = some (.int .i64 p.k) ∧ w.cell? ⟨g, t * 3 + 1, none⟩ = some (spanV p.a p.b) ∧ w.cell? ⟨g, t * 3 + 2, none⟩ = some (.int .i64 p.v) := by
  have h1 := cellsS_at hp
  have h2 := (List.getElem?_eq_some_iff.1 h1.1).1
  have h3 := hown.1
  obtain ⟨g2, cap, cur, rest, e1, hbg, hg, hnc, hcm, hxl, hrl, hcur⟩ := own_open hown (by omega)
  injection e1 with e1
  injection e1 with e1
  injection e1 with e1
  subst e1
  obtain ⟨q0, q1, q2⟩ := h1
  have l0 := (List.getElem?_eq_some_iff.1 q0).1
  have l1 := (List.getElem?_eq_some_iff.1 q1).1
  have l2 := (List.getElem?_eq_some_iff.1 q2).1
  refine ⟨?_, ?_, ?_⟩
  · rw [cell_row hg hcur, List.getElem?_append_left (by omega)]; exact q0
  · rw [cell_row hg hcur, List.getElem?_append_left (by omega)]; exact q1
  · rw [cell_row hg hcur, List.getElem?_append_left (by omega)]; exact q2
theorem setS_own {w : World} {base n g c : Nat} {L : List Ses} (hown : w.ownsRow base 53 3 (.slice (some ⟨g, 0, none⟩) n c) n (cellsS L)) {i : Nat} (p : Ses) {q : Ses} (hq : L[i]? = some q) :
    ((((w).setCell ⟨g, i * 3, none⟩ (.int .i64 p.k)).setCell ⟨g, i * 3 + 1, none⟩ (spanV p.a p.b)).setCell ⟨g, i * 3 + 2, none⟩ (.int .i64 p.v)).ownsRow base 53 3 (.slice (some ⟨g, 0, none⟩) n c) n (cellsS (L.set i p)) := by
  have hi := (List.getElem?_eq_some_iff.1 hq).1
  rw [← cellsS_set p hq]
  exact own_set (own_set (own_set (hown) (i * 3) (.int .i64 p.k) (by simp only [List.length_set, cellsS_len]; omega)) (i * 3 + 1) (spanV p.a p.b) (by simp only [List.length_set, cellsS_len]; omega)) (i * 3 + 2) (.int .i64 p.v) (by simp only [List.length_set, cellsS_len]; omega)
/-- What a question leaves: no block of the elements' kind is turned. -/
def KeepS (w w' : World) : Prop := w.heap.size ≤ w'.heap.size ∧ ∀ (k : Nat) (cs : Array Value), w.heap[k]? = some (.cells cs 53 (0, 0)) → w'.heap[k]? = some (.cells cs 53 (0, 0))
theorem KeepS.refl (w : World) : KeepS w w := ⟨Nat.le_refl _, fun _ _ h => h⟩
theorem KeepS.trans {a b c : World} (h : KeepS a b) (k : KeepS b c) : KeepS a c := ⟨Nat.le_trans h.1 k.1, fun i cs hc => k.2 i cs (h.2 i cs hc)⟩
theorem KeepS.below {a b : World} (h : Below a.heap.size a b) : KeepS a b := ⟨h.size, fun i cs hc => blk_below hc h⟩
theorem KeepS.own {w w' : World} (h : KeepS w w') {base n : Nat} {v : Value} {xs : List Value} (ho : w.ownsRow base 53 3 v n xs) : w'.ownsRow base 53 3 v n xs :=
  own_kept ho fun k hk => by obtain ⟨cur, hc⟩ := own_block ho hk; rw [h.2 k cur hc, hc]
def IdxS (n : Nat) (L : List Ses) (d : Ses → Bool) (I : Nat → World → Prop) (w : World) (e : Ending) (w' : World) : Prop :=
  (∃ t : Nat, (t < n ∧ (∃ p, L[t]? = some p ∧ d p = true) ∧ (∀ j, j < t → ∀ p, L[j]? = some p → d p = false) ∧ I (t + 1) w' ∧ KeepS w w') ∧ e = .returned (.int .i64 (t : Int))) ∨
  ((∀ j, j < n → ∀ p, L[j]? = some p → d p = false) ∧ I n w' ∧ KeepS w w' ∧ e = .returned (.int .i64 (-1)))
set_option maxHeartbeats 1000000 in
theorem idxS_ok (base n c g x0 x1 x2 : Nat) (L : List Ses) (d : Ses → Bool) (I : Nat → World → Prop) (w : World) (hn : L.length = n) (hn5 : n ≤ 5000) (hown : w.ownsRow base 53 3 (.slice (some ⟨g, 0, none⟩) n c) n (cellsS L)) (hI : I 0 w)
    (hcall : ∀ (t : Nat) (p : Ses) (w1 : World), L[t]? = some p → I t w1 → Calls Try.prog 28 #[.agg #[.int .i64 p.k, spanV p.a p.b, .int .i64 p.v], .pointer (some ⟨x0, 0, none⟩), .pointer (some ⟨x1, 0, none⟩), .pointer (some ⟨x2, 0, none⟩)] w1 fun e w' => e = .returned (.bool (d p)) ∧ I (t + 1) w' ∧ KeepS w1 w') :
    Calls Try.prog 34 #[.slice (some ⟨g, 0, none⟩) n c, .func (.func 28) #[] #[.pointer (some ⟨x0, 0, none⟩), .pointer (some ⟨x1, 0, none⟩), .pointer (some ⟨x2, 0, none⟩)]] w (IdxS n L d I w) := by
  have HO := Aside0.mk hown
  have HN := Aside0.mk hn
  have HC := Aside0.mk hcall
  have HI := Aside0.mk hI
  have HK := Aside0.mk (KeepS.refl w)
  clear hown hn hcall hI
  go_enter Try.func34, Try.ntmps34
  go_wp2_with fail
  go_loopw [8] (fun v8 wr => ∃ k : Nat, k ≤ n ∧ v8 = .int .i64 (k : Int) ∧ Aside0 (∀ j, j < k → ∀ p, L[j]? = some p → d p = false) ∧ Aside0 (I k wr) ∧ Aside0 (KeepS w wr)) (fun v8 _ => n - (intOf v8).toNat)
  case atStart => exact ⟨0, Nat.zero_le _, rfl, ⟨fun j hj => absurd hj (Nat.not_lt_zero _)⟩, HI, HK⟩
  case round =>
    clear HI HK
    obtain ⟨k, hk, rfl, HF, HI, HK⟩ := hrel
    by_cases hlt : k < n
    · have h1 : decide ((k : Int) < (n : Int)) = true := by simp; omega
      have h1b : decide (k < n) = true := by simp; omega
      obtain ⟨p, hp⟩ : ∃ p, L[k]? = some p := ⟨_, List.getElem?_eq_getElem (by rw [HN.out]; omega)⟩
      have HP := Aside0.mk hp
      obtain ⟨y0, y1, y2⟩ := cellsS_own (HK.out.own HO.out) hp
      have HCK := Aside0.mk (HC.out k p wr hp HI.out)
      clear hp
      go_wp2_with fail
      refine HCK.out.mono ?_
      rintro e w2 ⟨rfl, hi_, hk_⟩
      replace HI := Aside0.mk hi_
      replace HK := Aside0.mk (HK.out.trans hk_)
      clear hi_ hk_ HCK y0 y1 y2
      obtain ⟨b, HB⟩ : ∃ b, Aside0 (d p = b) := ⟨_, ⟨rfl⟩⟩
      rw [HB.out]
      cases b with
      | true =>
        have HPost : Aside0 (IdxS n L d I w (.returned (.int .i64 (k : Int))) w2) := ⟨.inl ⟨k, ⟨hlt, ⟨p, HP.out, HB.out⟩, HF.out, HI.out, HK.out⟩, rfl⟩⟩
        go_wp2_with fail
        go_ret
        exact HPost.out
      | false =>
        have HF2 : Aside0 (∀ j, j < k + 1 → ∀ p, L[j]? = some p → d p = false) := ⟨fun j hj p' hp' => by
          by_cases e : j = k
          · subst e
            rw [HP.out] at hp'
            injection hp' with hp'
            rw [← hp']; exact HB.out
          · exact HF.out j (by omega) p' hp'⟩
        go_wp2_with fail
        go_roundw
        case rel => exact ⟨k + 1, by omega, by go_num, HF2, HI, HK⟩
        case measure => simp [intOf]; omega
    · obtain rfl : k = n := by omega
      have HPost : Aside0 (IdxS k L d I w (.returned (.int .i64 (-1))) wr) := ⟨.inr ⟨HF.out, HI.out, HK.out, rfl⟩⟩
      clear hlt hk
      go_wp2_with fail
      go_ret
      exact HPost.out
theorem take_filterS {L : List Ses} {d : Ses → Bool} {j : Nat} {p : Ses} (h : L[j]? = some p) : (L.take (j + 1)).filter (fun x => !d x) = (L.take j).filter (fun x => !d x) ++ (if d p = true then [] else [p]) := by
  obtain ⟨hl, rfl⟩ := List.getElem?_eq_some_iff.1 h
  rw [List.take_succ_eq_append_getElem hl, List.filter_append]
  cases hd : d L[j] <;> simp [List.filter_cons, hd]
theorem none_filterS {L : List Ses} {d : Ses → Bool} (t : Nat) (h : ∀ j, j < t → ∀ p, L[j]? = some p → d p = false) : (L.take t).filter (fun x => !d x) = L.take t := by
  rw [List.filter_eq_self]
  intro x hx
  obtain ⟨j, hj, rfl⟩ := List.getElem_of_mem hx
  have hj' := hj
  rw [List.length_take] at hj'
  rw [List.getElem_take]
  rw [h j (by omega) _ (List.getElem?_eq_getElem (by omega))]
  rfl
theorem take_setS {R : List Ses} {i : Nat} {p : Ses} (h : i < R.length) : (R.set i p).take (i + 1) = R.take i ++ [p] := by
  rw [List.set_eq_take_append_cons_drop, if_pos h, List.take_append, List.length_take, show i + 1 - min i R.length = 1 by omega, List.take_of_length_le (by rw [List.length_take]; omega)]
  rfl
def DelS (base c g n : Nat) (K : List Ses) (I : Nat → World → Prop) (w : World) (e : Ending) (w' : World) : Prop :=
  ∃ m : Nat, e = .returned (.slice (some ⟨g, 0, none⟩) m c) ∧ K.length = m ∧ w'.ownsRow base 53 3 (.slice (some ⟨g, 0, none⟩) m c) m (cellsS K) ∧ I n w' ∧ w.heap.size ≤ w'.heap.size
set_option maxHeartbeats 4000000 in
set_option maxRecDepth 100000 in
theorem delS_ok (base n c g x0 x1 x2 : Nat) (L : List Ses) (d : Ses → Bool) (I : Nat → World → Prop) (w : World) (hn : L.length = n) (hn5 : n ≤ 5000) (hown : w.ownsRow base 53 3 (.slice (some ⟨g, 0, none⟩) n c) n (cellsS L)) (hI : I 0 w)
    (hcall : ∀ (t : Nat) (p : Ses) (w1 : World), L[t]? = some p → I t w1 → Calls Try.prog 28 #[.agg #[.int .i64 p.k, spanV p.a p.b, .int .i64 p.v], .pointer (some ⟨x0, 0, none⟩), .pointer (some ⟨x1, 0, none⟩), .pointer (some ⟨x2, 0, none⟩)] w1 fun e w' => e = .returned (.bool (d p)) ∧ I (t + 1) w' ∧ KeepS w1 w')
    (hmove : ∀ (t : Nat) (w1 w2 : World), I t w1 → Chg w1 w2 (fun k => k = g) → (∃ cs, w1.heap[g]? = some (.cells cs 53 (0, 0))) → I t w2) :
    Calls Try.prog 27 #[.slice (some ⟨g, 0, none⟩) n c, .func (.func 28) #[] #[.pointer (some ⟨x0, 0, none⟩), .pointer (some ⟨x1, 0, none⟩), .pointer (some ⟨x2, 0, none⟩)]] w (DelS base c g n (L.filter fun x => !d x) I w) := by
  have HO := Aside0.mk hown
  have HN := Aside0.mk hn
  have HC := Aside0.mk hcall
  have HM := Aside0.mk hmove
  have HX := Aside0.mk (idxS_ok base n c g x0 x1 x2 L d I w hn hn5 hown hI hcall)
  obtain ⟨F, HF⟩ : ∃ F, Aside0 (L.filter (fun x => !d x) = F) := ⟨_, ⟨rfl⟩⟩
  rw [HF.out]
  have hnc : n ≤ c := by obtain ⟨_, _, e, h, _⟩ := slice_of hown; injection e with _ _ e; omega
  have hcm : c ≤ 9223372036854775807 := by obtain ⟨_, _, e, _, h⟩ := slice_of hown; injection e with _ _ e; subst e; exact Nat.le_trans h (by decide)
  clear hown hn hcall hI hmove
  go_enter Try.func27, Try.ntmps27
  go_wp2_with fail
  refine HX.out.mono ?_
  rintro e w1 hpost
  rcases hpost with ⟨t, ⟨htn, ⟨p0, hp0, hd0⟩, hf0, hi0, hk0⟩, rfl⟩ | ⟨hf0, hi0, hk0, rfl⟩
  · have ht1 : ((t : Int) == -1) = false := by simp
    have HS : Aside0 (L.length = n ∧ L.take t = (L.take (t + 1)).filter (fun x => !d x) ∧ w1.ownsRow base 53 3 (.slice (some ⟨g, 0, none⟩) n c) n (cellsS L) ∧ I (t + 1) w1 ∧ w.heap.size ≤ w1.heap.size) :=
      ⟨⟨HN.out, by rw [take_filterS hp0, if_pos hd0, List.append_nil, none_filterS t hf0], hk0.own HO.out, hi0, hk0.1⟩⟩
    clear hp0 hd0 hf0 hi0 hk0 HO HX
    go_wp2_with fail
    go_loopw [5, 6] (fun v5 v6 wr => ∃ (i j : Nat) (R : List Ses), v5 = .int .i64 (i : Int) ∧ v6 = .int .i64 (j : Int) ∧ i < j ∧ j ≤ n ∧ Aside0 (R.length = n ∧ R.take i = (L.take j).filter (fun x => !d x) ∧ wr.ownsRow base 53 3 (.slice (some ⟨g, 0, none⟩) n c) n (cellsS R) ∧ I j wr ∧ w.heap.size ≤ wr.heap.size) ∧ Aside0 (R.drop j = L.drop j)) (fun _ v6 _ => n - (intOf v6).toNat)
    case atStart => exact ⟨t, t + 1, L, rfl, by go_num, by omega, htn, HS, ⟨rfl⟩⟩
    case round =>
      clear HS
      obtain ⟨i, j, R, rfl, rfl, hij, hjn, HS, HD⟩ := hrel
      by_cases hlt : j < n
      · have h1 : decide ((j : Int) < (n : Int)) = true := by simp; omega
        have h1b : decide (j < n) = true := by simp; omega
        obtain ⟨p, hp⟩ : ∃ p, L[j]? = some p := ⟨_, List.getElem?_eq_getElem (by rw [HN.out]; omega)⟩
        have HP := Aside0.mk hp
        have hpR : R[j]? = some p := by
          have e2 : (R.drop j)[0]? = (L.drop j)[0]? := by rw [HD.out]
          rw [List.getElem?_drop, List.getElem?_drop, Nat.add_zero] at e2
          rw [e2]; exact hp
        obtain ⟨q, hq⟩ : ∃ q, R[i]? = some q := ⟨_, List.getElem?_eq_getElem (by rw [HS.out.1]; omega)⟩
        have HQ := Aside0.mk hq
        have HDD : Aside0 (R.drop (j + 1) = L.drop (j + 1)) := ⟨by rw [← List.drop_drop, ← List.drop_drop, HD.out]⟩
        obtain ⟨y0, y1, y2⟩ := cellsS_own HS.out.2.2.1 hpR
        clear hp hpR hq
        go_upto_region 8 with fail
        clear y0 y1 y2
        have HV := Aside0.mk (heap_alloc_new wr (.cells #[.int .i64 p.k, spanV p.a p.b, .int .i64 p.v] 53))
        have HBL := Aside0.mk (below_alloc (Below.refl wr.heap.size wr) (.cells #[.int .i64 p.k, spanV p.a p.b, .int .i64 p.v] 53))
        generalize wr.alloc (.cells #[.int .i64 p.k, spanV p.a p.b, .int .i64 p.v] 53) = wa at HV HBL ⊢
        have hfw : ∃ cs, wr.heap[g]? = some (.cells cs 53 (0, 0)) := own_block HS.out.2.2.1 rfl
        have HCK := Aside0.mk (HC.out j p wa HP.out (HM.out j wr wa HS.out.2.2.2.1 (Chg.of_below HBL.out) hfw))
        have HOA := Aside0.mk (own_below HS.out.2.2.1 HBL.out)
        have HSZ : Aside0 (w.heap.size ≤ wa.heap.size) := ⟨Nat.le_trans HS.out.2.2.2.2 HBL.out.size⟩
        obtain ⟨gv, HGV⟩ : ∃ g, Aside0 (wr.heap.size = g) := ⟨_, ⟨rfl⟩⟩
        rw [HGV.out] at HV ⊢
        clear hfw HBL
        have v0_ := (blk_cell HV.out 0).trans (rfl : _ = some (.int .i64 p.k : Value))
        have v1_ := (blk_cell HV.out 1).trans (rfl : _ = some (spanV p.a p.b : Value))
        have v2_ := (blk_cell HV.out 2).trans (rfl : _ = some (.int .i64 p.v : Value))
        go_wp2_with fail
        refine HCK.out.mono ?_
        rintro e w3 ⟨rfl, hi_, hk_⟩
        have HI3 := Aside0.mk hi_
        have HO3 := Aside0.mk (hk_.own HOA.out)
        have HV3 := Aside0.mk (hk_.2 gv _ HV.out)
        replace HSZ := Aside0.mk (Nat.le_trans HSZ.out hk_.1)
        clear hi_ hk_ HCK HOA HV v0_ v1_ v2_
        obtain ⟨b, HB⟩ : ∃ b, Aside0 (d p = b) := ⟨_, ⟨rfl⟩⟩
        rw [HB.out]
        cases b with
        | true =>
          go_wp2_with fail
          go_roundw
          case rel => exact ⟨i, j + 1, R, rfl, by go_num, by omega, by omega, ⟨HS.out.1, by rw [take_filterS HP.out, if_pos HB.out, List.append_nil]; exact HS.out.2.1, HO3.out, HI3.out, HSZ.out⟩, HDD⟩
          case measure => simp [intOf]; omega
        | false =>
          have v0_ := (blk_cell HV3.out 0).trans (rfl : _ = some (.int .i64 p.k : Value))
          have v1_ := (blk_cell HV3.out 1).trans (rfl : _ = some (spanV p.a p.b : Value))
          have v2_ := (blk_cell HV3.out 2).trans (rfl : _ = some (.int .i64 p.v : Value))
          obtain ⟨c0_, c1_, c2_⟩ := cellsS_own HO3.out HQ.out
          obtain ⟨cur, hcur⟩ := own_block HO3.out (k := g) rfl
          have f0_ := blk_frozen hcur (i * 3)
          have f1_ := blk_frozen hcur (i * 3 + 1)
          have f2_ := blk_frozen hcur (i * 3 + 2)
          have HRS : Aside0 (((((w3).setCell ⟨g, i * 3, none⟩ (.int .i64 p.k)).setCell ⟨g, i * 3 + 1, none⟩ (spanV p.a p.b)).setCell ⟨g, i * 3 + 2, none⟩ (.int .i64 p.v)).ownsRow base 53 3 (.slice (some ⟨g, 0, none⟩) n c) n (cellsS (R.set i p))) := ⟨setS_own HO3.out p HQ.out⟩
          have HIS : Aside0 (I (j + 1) ((((w3).setCell ⟨g, i * 3, none⟩ (.int .i64 p.k)).setCell ⟨g, i * 3 + 1, none⟩ (spanV p.a p.b)).setCell ⟨g, i * 3 + 2, none⟩ (.int .i64 p.v))) := ⟨HM.out (j + 1) w3 _ HI3.out (Chg.set (Chg.set (Chg.set (Chg.refl w3 (fun k => k = g)) (p := ⟨g, i * 3, none⟩) rfl (.int .i64 p.k)) (p := ⟨g, i * 3 + 1, none⟩) rfl (spanV p.a p.b)) (p := ⟨g, i * 3 + 2, none⟩) rfl (.int .i64 p.v)) ⟨cur, hcur⟩⟩
          have HSZ2 : Aside0 (w.heap.size ≤ ((((w3).setCell ⟨g, i * 3, none⟩ (.int .i64 p.k)).setCell ⟨g, i * 3 + 1, none⟩ (spanV p.a p.b)).setCell ⟨g, i * 3 + 2, none⟩ (.int .i64 p.v)).heap.size) := ⟨by simpa using HSZ.out⟩
          clear hcur
          go_upto_region 10 with fail
          clear v0_ c0_ f0_ v1_ c1_ f1_ v2_ c2_ f2_
          generalize (((w3).setCell ⟨g, i * 3, none⟩ (.int .i64 p.k)).setCell ⟨g, i * 3 + 1, none⟩ (spanV p.a p.b)).setCell ⟨g, i * 3 + 2, none⟩ (.int .i64 p.v) = w4 at HRS HIS HSZ2 ⊢
          go_wp2_with fail
          go_roundw
          case rel => exact ⟨i + 1, j + 1, R.set i p, by go_num, by go_num, by omega, by omega, ⟨by rw [List.length_set]; exact HS.out.1, by rw [take_setS (by rw [HS.out.1]; omega), take_filterS HP.out, if_neg (by rw [HB.out]; simp), HS.out.2.1], HRS.out, HIS.out, HSZ2.out⟩, ⟨by rw [List.drop_set_of_lt (by omega)]; exact HDD.out⟩⟩
          case measure => simp [intOf]; omega
      · obtain rfl : n = j := by omega
        obtain ⟨g2, cap, cur, rest, e1, hbg, hg, hnc2, hcm2, hxl, hrl, hcur⟩ := own_open HS.out.2.2.1 (by omega)
        injection e1 with e1 _ e3
        injection e1 with e1
        injection e1 with e1 _ _
        subst e1 e3
        have HFR : Aside0 (R.take i = F) := ⟨by rw [HS.out.2.1, ← HN.out, List.take_length, HF.out]⟩
        have hcs : cur.size = c * 3 := by rw [← Array.length_toList, hcur, List.length_append]; omega
        have hit : i * 3 + (n - i) * 3 = n * 3 := by omega
        obtain ⟨Zs, hZ⟩ : ∃ Zs : List Value, Zs = (Builtin.zeroCells (Value.agg #[.int .i64 0, .complex .f64 0 0, .int .i64 0]).cells (n - i)).toList := ⟨_, rfl⟩
        have hlz : Zs.length = (n - i) * 3 := by rw [hZ]; simp [Builtin.zeroCells, Value.cells]
        obtain ⟨c2, hc2⟩ : ∃ c2 : Array Value, c2 = (cur.toList.take (i * 3) ++ Zs ++ cur.toList.drop (i * 3 + (n - i) * 3)).toArray := ⟨_, rfl⟩
        have hcl : ∀ ty cc, (Builtin.clear_ #[47] ty #[.slice (some ⟨g, i * 3, none⟩) (n - i) cc]).run Try.prog wr = .ok (.tuple #[]) (wr.setRow g c2) := fun ty cc => by
          rw [hc2, hZ]
          exact run_clear_row wr 47 ty 53 _ 3 g _ _ cc cur 53 Try.underlying47 zeroP rfl (by omega) (by intro v hv; simp [Value.cells] at hv; rcases hv with rfl | rfl | rfl <;> rfl) hg (by rw [hcs]; omega)
        have hl1 : (cellsS R).length = n * 3 := by rw [cellsS_len, HS.out.1]
        have HRW : Aside0 ((wr.setRow g c2).ownsRow base 53 3 (.slice (some ⟨g, 0, none⟩) i c) i (cellsS F)) := ⟨by
          refine own_mk (rest := Zs ++ rest) hbg (setRow_heap wr _ _ _ _ _ hg) (by omega) hcm2 (by rw [← HFR.out, cellsS_len, List.length_take, HS.out.1]; omega) (by rw [List.length_append, hlz]; omega) ?_
          rw [hc2, hcur, List.toList_toArray, ← HFR.out, cellsS_take, List.take_append_of_le_length (by omega), drop_app (cellsS R) rest 0 (by omega), List.drop_zero, List.append_assoc]⟩
        have HIR : Aside0 (I n (wr.setRow g c2)) := ⟨HM.out n wr _ HS.out.2.2.2.1 ((Chg.of_grown (grown_set wr g c2)).mono fun k hk => by injection hk) ⟨cur, hg⟩⟩
        have HSR : Aside0 (w.heap.size ≤ (wr.setRow g c2).heap.size) := ⟨by simpa using HS.out.2.2.2.2⟩
        have HPost : Aside0 (DelS base c g n F I w (.returned (.slice (some ⟨g, 0, none⟩) i c)) (wr.setRow g c2)) := ⟨⟨i, rfl, by rw [← HFR.out, List.length_take, HS.out.1]; omega, HRW.out, HIR.out, HSR.out⟩⟩
        have hic : i < c := by omega
        have hin : (i : Int) ≤ (n : Int) := by omega
        have hin2 : i ≤ n := by omega
        have hicn : ¬ (c = i) := by omega
        clear hg hcur hxl hrl hc2 hZ hlz hcs hl1 hit hlt hjn HRW HIR HSR
        go_wp2_with fail
        go_ret
        exact HPost.out
  · have HFL : Aside0 (F = L) := ⟨by rw [← HF.out]; have := none_filterS n hf0; rwa [← HN.out, List.take_length] at this⟩
    have HPost : Aside0 (DelS base c g n F I w (.returned (.slice (some ⟨g, 0, none⟩) n c)) w1) := ⟨⟨n, rfl, by rw [HFL.out]; exact HN.out, by rw [HFL.out]; exact hk0.own HO.out, hi0, hk0.1⟩⟩
    clear hf0 hi0 hk0
    go_wp2_with fail
    go_ret
    exact HPost.out
/-- A row that is none. -/
theorem delS_nil (x0 x1 x2 : Nat) (w : World) : Calls Try.prog 27 #[.slice none 0 0, .func (.func 28) #[] #[.pointer (some ⟨x0, 0, none⟩), .pointer (some ⟨x1, 0, none⟩), .pointer (some ⟨x2, 0, none⟩)]] w fun e w' => e = .returned (.slice none 0 0) ∧ w = w' := by
  have HX : Aside0 (Calls Try.prog 34 #[.slice none 0 0, .func (.func 28) #[] #[.pointer (some ⟨x0, 0, none⟩), .pointer (some ⟨x1, 0, none⟩), .pointer (some ⟨x2, 0, none⟩)]] w fun e w' => e = .returned (.int .i64 (-1)) ∧ w = w') := ⟨by
    go_enter Try.func34, Try.ntmps34
    go_wp2_with fail
    refine wp_loop_rounds 2 ?_
    rw [rounds_succ]
    go_wp2
    go_ret
    exact ⟨rfl, rfl⟩⟩
  go_enter Try.func27, Try.ntmps27
  go_wp2_with fail
  refine HX.out.mono ?_
  rintro e w1 ⟨rfl, rfl⟩
  go_wp2_with fail
  go_ret
  exact ⟨rfl, rfl⟩

end Go.Proofs.Ytpjfmilokadchaa.Se
