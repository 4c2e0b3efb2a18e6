/- (c11) view.Stable. -/
import Derived.Test.YtmnglonjekegcaaVwRdA
namespace Go.Proofs.Ytmnglonjekegcaa.Vw
open Go Go.RowKit Go.Maps Go.Proofs.Ytmnglonjekegcaa.Mk Go.Proofs.Ytmnglonjekegcaa.Rp Go.Proofs.YtmnglonjekegcaaW.PrintWords Go.Proofs.YtmnglonjekegcaaW.PrintLast Go.Proofs.YtmnglonjekegcaaW.PrintMore Go.Proofs.Ytmnglonjekegcaa.Rw Go.Proofs.Ytmnglonjekegcaa.Ow Go.Proofs.Ytmnglonjekegcaa.Mono
set_option linter.unusedVariables false
set_option linter.unusedSimpArgs false
set_option maxRecDepth 100000
/-- Where a task's first open entry stands. -/
def headO (s : TS) : Option Int := s.o.head?.map Prod.fst
def lesser (m : Int) (s : TS) : Int := match s.o with | [] => m | p :: _ => if p.1 < m then p.1 else m
/-- Under way: the least of what has come. -/
structure SRel (n : Int) (T : List TE) (left : Lit → Bool) (m : Int) : Prop where
  top : m ≤ n
  low : ∀ e ∈ T, left (.int .i64 e.t.f0) = false → ∀ a, headO e.s = some a → m ≤ a
  one : m = n ∨ ∃ e ∈ T, headO e.s = some m
  has : ∀ k : Int, left (.int .i64 k) = true → k ∈ T.map fun e => e.t.f0
theorem fold_lesser (n : Int) (T : List TS) : (T.foldl lesser n ≤ n ∧ (∀ s ∈ T, ∀ a, headO s = some a → T.foldl lesser n ≤ a)) ∧ (T.foldl lesser n = n ∨ ∃ s ∈ T, headO s = some (T.foldl lesser n)) := by
  induction T generalizing n with
  | nil => exact ⟨⟨Int.le_refl _, by simp⟩, .inl rfl⟩
  | cons s T ih =>
    rw [List.foldl_cons]
    obtain ⟨⟨h1, h2⟩, h3⟩ := ih (lesser n s)
    have hl : lesser n s ≤ n := by unfold lesser; split <;> (try split) <;> omega
    have hh : ∀ a, headO s = some a → lesser n s ≤ a := fun a ha => by
      unfold headO at ha
      unfold lesser
      cases ho : s.o with
      | nil => rw [ho] at ha; cases ha
      | cons p r =>
        rw [ho] at ha
        simp at ha
        simp only
        split <;> omega
    refine ⟨⟨Int.le_trans h1 hl, fun u hu a ha => ?_⟩, ?_⟩
    · rcases List.mem_cons.1 hu with rfl | hu
      · exact Int.le_trans h1 (hh a ha)
      · exact h2 u hu a ha
    · rcases h3 with h3 | ⟨u, hu, h3⟩
      · have h4 : lesser n s = n ∨ headO s = some (lesser n s) := by
          unfold lesser headO
          cases ho : s.o with
          | nil => exact .inl rfl
          | cons p r =>
            simp only [List.head?_cons, Option.map_some]
            split
            · exact .inr rfl
            · exact .inl rfl
        rcases h4 with h4 | h4
        · exact .inl (h3.trans h4)
        · exact .inr ⟨s, by simp, by rw [h3]; exact h4⟩
      · exact .inr ⟨u, by simp [hu], h3⟩
theorem SRel.done {n m : Int} {T : List TE} {left : Lit → Bool} (h : SRel n T left m) (hl : ∀ k, left k = false) : m = (T.map TE.s).foldl lesser n := by
  obtain ⟨⟨h1, h2⟩, h3⟩ := fold_lesser n (T.map TE.s)
  have a1 : m ≤ (T.map TE.s).foldl lesser n := by
    rcases h3 with h3 | ⟨s, hs, h3⟩
    · rw [h3]; exact h.top
    · obtain ⟨e, he, rfl⟩ := List.mem_map.1 hs
      exact h.low e he (hl _) _ h3
  have a2 : (T.map TE.s).foldl lesser n ≤ m := by
    rcases h.one with h4 | ⟨e, he, h4⟩
    · rw [h4]; exact h1
    · exact h2 e.s (List.mem_map.2 ⟨e, he, rfl⟩) m h4
  omega
theorem SRel.start {n : Int} {T : List TE} {D : DataW Unit} (hv : View D (T.map fun e => (e.t.f0, (e.g : Int)))) : SRel n T (Maps.has D) n := by
  refine ⟨Int.le_refl _, fun e he hl a ha => ?_, .inl rfl, fun k hk => ?_⟩
  · rw [hv.has] at hl
    cases hq : lk (T.map fun e => (e.t.f0, (e.g : Int))) e.t.f0 with
    | none => exact absurd (List.mem_map.2 ⟨e, he, rfl⟩) (lkT_no hq)
    | some g => rw [hq] at hl; cases hl
  · rw [hv.has] at hk
    cases hq : lk (T.map fun e => (e.t.f0, (e.g : Int))) k with
    | none => rw [hq] at hk; cases hk
    | some g =>
      obtain ⟨i, e, h1, h2, _⟩ := lkT_at hq
      exact List.mem_map.2 ⟨e, List.mem_of_getElem? h1, h2⟩
theorem SRel.step {n m : Int} {T : List TE} {left : Lit → Bool} (h : SRel n T left m) (nd : (T.map fun e => e.t.f0).Nodup) {e : TE} (he : e ∈ T) : SRel n T (fun z => left z && !z.sameKey (.int .i64 e.t.f0)) (lesser m e.s) := by
  have hl : lesser m e.s ≤ m := by unfold lesser; split <;> (try split) <;> omega
  have hh : ∀ a, headO e.s = some a → lesser m e.s ≤ a := fun a ha => by
    unfold headO at ha
    unfold lesser
    cases ho : e.s.o with
    | nil => rw [ho] at ha; cases ha
    | cons p r =>
      rw [ho] at ha
      simp at ha
      simp only
      split <;> omega
  refine ⟨Int.le_trans hl h.top, fun u hu hq a ha => ?_, ?_, fun k hk => h.has k (by simp at hk; exact hk.1)⟩
  · simp only [Bool.and_eq_false_iff, Bool.not_eq_false'] at hq
    rcases hq with hq | hq
    · exact Int.le_trans hl (h.low u hu hq a ha)
    · have e1 : u.t.f0 = e.t.f0 := by simpa [Lit.sameKey] using hq
      obtain ⟨i, hi, ei⟩ := List.getElem_of_mem hu
      obtain ⟨j, hj, ej⟩ := List.getElem_of_mem he
      have : u = e := by
        by_cases hij : i = j
        · subst hij; rw [← ei, ← ej]
        · have hp := List.pairwise_iff_getElem.1 nd
          rcases Nat.lt_or_gt_of_ne hij with hlt | hlt
          · exact absurd (by rw [List.getElem_map, List.getElem_map, ei, ej, e1]) (hp i j (by simpa using hi) (by simpa using hj) hlt)
          · exact absurd (by rw [List.getElem_map, List.getElem_map, ei, ej, e1]) (hp j i (by simpa using hj) (by simpa using hi) hlt)
      subst this
      exact hh a ha
  · unfold lesser
    cases ho : e.s.o with
    | nil => exact h.one
    | cons p r =>
      simp only
      split
      · exact .inr ⟨e, he, by unfold headO; rw [ho]; rfl⟩
      · exact h.one
theorem stable_eq (l : List S47) : stableV l = (throughV l).T.foldl lesser (l.length : Int) := by
  unfold stableV
  congr 1
set_option maxHeartbeats 4000000 in
theorem stable_ok (A : Option Addr) (n c : Nat) (l : List S47) (w : World) (hC : Kd.C k47 w A n l) (hn : n ≤ 900) (hnc : n ≤ c) : Calls Try.prog 14 #[.slice A n c] w fun e w' => e = .returned (.int .i64 (stableV l)) ∧ Below w.heap.size w w' := by
  have HC := Aside0.mk hC
  have HN := Aside0.mk hn
  have HLN := Aside0.mk hC.1
  clear hC
  go_enter Try.func14, Try.ntmps14
  go_wp2_with fail
  refine (through_ok A n c l w HC.out HN.out hnc).mono ?_
  rintro e_ w2 ⟨bs, M, T, rfl, hb_, hv_, hm_⟩
  have HV := Aside0.mk hv_
  have HM := Aside0.mk hm_
  have HB := Aside0.mk hb_
  obtain ⟨⟨bl, bt, hst, hL, hT, hne⟩, hbb⟩ := hv_
  have c1_ := (blk_cell hst 1).trans (rfl : _ = some (.map (some bt) : Value))
  have HTS := Aside0.mk hT
  have hmp := hT.mp
  obtain ⟨D, ho, hv⟩ := hmp
  have HO := Aside0.mk ho
  have HVW := Aside0.mk hv
  have hbt : bt < w2.heap.size := ho.lt
  clear hb_ hm_ hst hL hT hne hbb ho hv
  go_wp2_with (at_range; refine wpList_range_own _ rfl _ _ rfl 3 64 KI Try.underlying60 _ bt _ D rfl HO.out ?_; intro w0 hrg0 hg0 hs0)
  rw [List.length_map] at hrg0
  have HR0 := Aside0.mk hrg0
  have HB0 := Aside0.mk ((Below.refl w2.heap.size w2).grown hg0 (Nat.le_refl _) (fun _ h => by cases h))
  clear hrg0 hg0 hs0 c1_
  go_frame
  go_loopw [3] (fun v3 wr => ∃ (m : Int) (left : Lit → Bool) (cnt : Nat), v3 = .int .i64 m ∧ Aside0 (wr.ranges Try.prog 3 ptrE bt w2.heap.size T.length D left cnt) ∧ Aside0 (Below w2.heap.size w2 wr) ∧ Aside0 (SRel (n : Int) T left m)) (fun _ wr => wr.rangeLeft bt w2.heap.size)
  case atStart => exact ⟨_, _, _, rfl, HR0, HB0, ⟨SRel.start HVW.out⟩⟩
  case round =>
    clear HR0 HB0
    obtain ⟨m, left, cnt, rfl, HR, HB2, HRL⟩ := hrel
    go_wp2_with (at_next; refine wpList_next_ranges _ rfl _ rfl 3 KI ptrE (Value.int .i64) pv inv_key inv_ptr bt w2.heap.size _ _ _ _ rfl HR.out ?_ ?_)
    · intro _ hl0
      have HD := Aside0.mk (HRL.out.done hl0)
      go_wp2
      go_ret
      refine ⟨?_, below_step HB.out HB2.out⟩
      rw [stable_eq, ← HM.out, HLN.out, HD.out]
      rfl
    · intro x c kl y1 y2 w1 cnt1 hkey hlx hRc hat hrg1 hlt hg1 hs1 hen
      obtain rfl : kl = .int .i64 x := key_of hkey
      obtain ⟨j, e, hj, hek, hlk⟩ := tasks_at (HRL.out.has x hlx)
      subst hek
      have hval := HVW.out.at_ _ _ hlk .nil
      rw [hat .nil] at hval
      obtain rfl : c = some e.g := by
        cases c with
        | none =>
          have h2 : (some ((.lit (.int .i64 (-1)) : DataW Unit), ([] : List MemPlace))) = some (y1, y2) := hRc
          injection h2 with h2
          injection h2 with h2 _
          rw [hval] at h2
          injection h2 with h2
          injection h2 with _ h2
          omega
        | some g =>
          have h2 : ptrE (.pointer (some ⟨g, 0, none⟩)) = some (y1, y2) := hRc
          rw [ptrE_mk] at h2
          injection h2 with h2
          injection h2 with h2 _
          rw [hval] at h2
          injection h2 with h2
          injection h2 with _ h2
          rw [show g = e.g by omega]
      have HB1 := Aside0.mk (HB2.out.grown hg1 (below_size HB2.out) (fun j hj => by cases hj; exact Nat.le_refl _))
      have HR1 := Aside0.mk hrg1
      have HC1 := Aside0.mk (show cnt1 < cnt from hlt)
      have HEJ := Aside0.mk (List.mem_of_getElem? hj)
      have HRL1 := Aside0.mk (HRL.out.step HTS.out.nd HEJ.out)
      have HTA := Aside0.mk ((HTS.out.each e HEJ.out).keep (w' := w1) fun k T cs _ hk => blk_below hk HB1.out)
      obtain ⟨Ap, cp, hvp, hcp, hcpm⟩ := slice_of HTA.out.rp
      have hcp2 : cp ≤ 9223372036854775807 := Nat.le_trans hcpm (by decide)
      have c6_ := (blk_cell HTA.out.cell 6).trans (rfl : _ = some (e.vp : Value))
      rw [hvp] at c6_
      have HVP := Aside0.mk hvp
      clear hrg1 hlt hg1 hkey hlx hRc hat hs1 hval hlk hj hvp hcpm
      unfold pv at hen ⊢
      by_cases h0 : 0 < e.items.length
      · have h0a : decide ((0 : Int) < (e.items.length : Int)) = true := decide_eq_true (by omega)
        have h0b : decide (0 < e.items.length) = true := decide_eq_true h0
        obtain ⟨p, hp⟩ : ∃ p, e.items[0]? = some p := ⟨_, List.getElem?_eq_getElem h0⟩
        have hrp := HTA.out.rp
        rw [HVP.out] at hrp
        obtain ⟨gp, rfl⟩ := own_some hrp h0
        have p_ := items_at hrp hp 0 (.int .i64 p.at_) rfl
        rw [Nat.zero_mul, Nat.zero_add] at p_
        have HLS : Aside0 (lesser m e.s = min m p.at_) := ⟨by
          unfold lesser TE.s
          cases hit : e.items with
          | nil => rw [hit] at hp; cases hp
          | cons q r =>
            rw [hit] at hp
            injection hp with hp
            subst hp
            simp only [List.map_cons]
            omega⟩
        clear hrp hp
        go_wp2_with fail
        go_roundw
        case rel => exact ⟨_, _, cnt1, rfl, HR1, HB1, ⟨by rw [← HLS.out]; exact HRL1.out⟩⟩
        case measure => rw [HR1.out.left_eq, HR.out.left_eq]; exact HC1.out
      · have h0a : decide ((0 : Int) < (e.items.length : Int)) = false := decide_eq_false (by omega)
        have h0b : decide (0 < e.items.length) = false := decide_eq_false h0
        have HLS : Aside0 (lesser m e.s = m) := ⟨by
          have : e.items = [] := List.length_eq_zero_iff.1 (by omega)
          unfold lesser TE.s
          rw [this]
          rfl⟩
        go_wp2_with fail
        go_roundw
        case rel => exact ⟨m, _, cnt1, rfl, HR1, HB1, ⟨by rw [HLS.out] at HRL1; exact HRL1.out⟩⟩
        case measure => rw [HR1.out.left_eq, HR.out.left_eq]; exact HC1.out
end Go.Proofs.Ytmnglonjekegcaa.Vw
