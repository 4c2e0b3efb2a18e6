/- Plain laws of topologies: the document's Check is the program's. -/
import Derived.Test.YteanncfmaomhaaaTpLwA
import Derived.Test.YteanncfmaomhaaaTpCheck
import Derived.Test.YteanncfmaomhaaaEx9
namespace Go.Proofs.Yteanncfmaomhaaa.Ex
open Go Go.RowKit Go.Proofs.YteanncfmaomhaaaW.PrintWords Go.Proofs.YteanncfmaomhaaaW.PrintLast Go.Proofs.YteanncfmaomhaaaW.PrintMore
set_option linter.unusedVariables false
set_option linter.unusedSimpArgs false
theorem vAt_rd (l : List Vx) (x : Int) : rd_T40 l x = vAt l x := rfl
theorem vAt_get {l : List Vx} {i : Nat} (h : i < l.length) : vAt l (i : Int) = l[i] := by
  unfold vAt rd_T40
  rw [Int.toNat_natCast, List.getD_eq_getElem?_getD, List.getElem?_eq_getElem h]
  rfl
theorem vAt_mem {l : List Vx} {i : Nat} (h : i < l.length) : vAt l (i : Int) ∈ l := by rw [vAt_get h]; exact List.getElem_mem _
theorem wrapN {i : Nat} (h : i < 9223372036854775807) : wrap64 ((i : Int) + 1) = ((i + 1 : Nat) : Int) := by unfold wrap64; omega
theorem rd_cons {xs : List Int} {k : Nat} (h : k < xs.length) : xs.drop k = rd xs (k : Int) :: xs.drop (k + 1) := by
  rw [List.drop_eq_getElem_cons h]
  unfold rd
  rw [Int.toNat_natCast, List.getD_eq_getElem?_getD, List.getElem?_eq_getElem h]
  rfl
/-! ### is a number taken -/
def sameB (v u : Vx) : Bool := (u.f0 == v.f0) && ((u.f3 == v.f3) && ((v.f0 == 1) || (v.f0 == 10)))
theorem taken_l0 (l : List Vx) (p : Int) (i : Nat) (hi : i < l.length) (hl : l.length ≤ 24) : ∀ (d j : Nat), j + d = i → Ev (fun k => tidemillref05_taken.l0 k (i : Int) (vAt l (i : Int)).f0 (j : Int) l p) (((l.take i).drop j).any (sameB (vAt l (i : Int)))) := by
  intro d
  induction d with
  | zero =>
    intro j hj
    rw [List.drop_of_length_le (by rw [List.length_take]; omega)]
    refine Ev.step (f := fun _ => some false) (fun k => ?_) (Ev.now _)
    simp only [tidemillref05_taken.l0]
    rw [if_neg (by omega)]
  | succ d ih =>
    intro j hj
    have hjl : j < l.length := by omega
    have hd : (l.take i).drop j = vAt l (j : Int) :: (l.take i).drop (j + 1) := by
      rw [List.drop_eq_getElem_cons (by rw [List.length_take]; omega), vAt_get hjl, List.getElem_take]
    rw [hd, List.any_cons]
    generalize hu : vAt l (j : Int) = u
    generalize hv : vAt l (i : Int) = v
    rw [hv] at ih
    have ih2 := ih (j + 1) (by omega)
    refine Ev.step (f := fun k => if u.f0 = v.f0 then (if u.f3 = v.f3 then (if v.f0 = 1 then (some true) else (if v.f0 = 10 then (some true) else (tidemillref05_taken.l0 k (i : Int) v.f0 ((j + 1 : Nat) : Int) l p))) else (tidemillref05_taken.l0 k (i : Int) v.f0 ((j + 1 : Nat) : Int) l p)) else (tidemillref05_taken.l0 k (i : Int) v.f0 ((j + 1 : Nat) : Int) l p)) (fun k => ?_) ?_
    · simp only [tidemillref05_taken.l0]
      rw [if_pos (by omega), if_pos (by omega), if_pos (by omega), wrapN (by omega), vAt_rd, vAt_rd, hu, hv]
      simp only [if_pos (show (0 : Int) ≤ (i : Int) by omega), if_pos (show (i : Int) < (l.length : Int) by omega)]
    · unfold sameB
      by_cases h1 : u.f0 = v.f0
      · simp only [if_pos h1]
        rw [show (u.f0 == v.f0) = true by simpa using h1, Bool.true_and]
        by_cases h2 : u.f3 = v.f3
        · simp only [if_pos h2]
          rw [show (u.f3 == v.f3) = true by simpa using h2, Bool.true_and]
          by_cases h3 : v.f0 = 1
          · simp only [if_pos h3]
            rw [show (v.f0 == 1) = true by simpa using h3, Bool.true_or, Bool.true_or]
            exact Ev.now _
          · simp only [if_neg h3]
            rw [show (v.f0 == 1) = false by simpa using h3, Bool.false_or]
            by_cases h4 : v.f0 = 10
            · simp only [if_pos h4]
              rw [show (v.f0 == 10) = true by simpa using h4, Bool.true_or]
              exact Ev.now _
            · simp only [if_neg h4]
              rw [show (v.f0 == 10) = false by simpa using h4, Bool.false_or]
              unfold sameB at ih2
              rw [show (v.f0 == 1) = false by simpa using h3, show (v.f0 == 10) = false by simpa using h4] at ih2
              exact ih2
        · simp only [if_neg h2]
          rw [show (u.f3 == v.f3) = false by simpa using h2, Bool.false_and, Bool.false_or]
          exact ih2
      · simp only [if_neg h1]
        rw [show (u.f0 == v.f0) = false by simpa using h1, Bool.false_and, Bool.false_or]
        exact ih2
theorem own_is (k : Int) : (fmOf k).own = ((k == 1) || (k == 10)) := by
  unfold fmOf
  by_cases h1 : k = 1
  · rw [if_pos h1, h1]; rfl
  rw [if_neg h1, show (k == 1) = false by simpa using h1, Bool.false_or]
  by_cases h10 : k = 10
  · rw [h10]; rfl
  rw [show (k == 10) = false by simpa using h10]
  repeat' split
  all_goals first | rfl | omega
/-- Those that were seen are those ahead. -/
def Seen (l : List Vx) (i : Nat) (ks : List (Int × Int)) : Prop := ∀ q, q ∈ ks ↔ ∃ u ∈ l.take i, (u.f0, u.f3) = q
theorem Seen.start (l : List Vx) : Seen l 0 [] := fun q => by simp
theorem Seen.next {l : List Vx} {i : Nat} {ks : List (Int × Int)} (h : Seen l i ks) (hi : i < l.length) : Seen l (i + 1) (((vAt l (i : Int)).f0, (vAt l (i : Int)).f3) :: ks) := fun q => by
  rw [List.mem_cons, h q, List.take_succ_eq_append_getElem hi, vAt_get hi]
  constructor
  · rintro (rfl | ⟨u, hu, rfl⟩)
    · exact ⟨_, List.mem_append.2 (.inr (List.mem_singleton.2 rfl)), rfl⟩
    · exact ⟨u, List.mem_append.2 (.inl hu), rfl⟩
  · rintro ⟨u, hu, rfl⟩
    rcases List.mem_append.1 hu with hu | hu
    · exact .inr ⟨u, hu, rfl⟩
    · obtain rfl : u = l[i] := by simpa using hu
      exact .inl rfl
theorem seen_any {l : List Vx} {i : Nat} {ks : List (Int × Int)} (h : Seen l i ks) (v : Vx) : (l.take i).any (sameB v) = ((fmOf v.f0).own && decide ((v.f0, v.f3) ∈ ks)) := by
  rw [own_is]
  apply Bool.eq_iff_iff.2
  rw [List.any_eq_true, Bool.and_eq_true, decide_eq_true_eq, h]
  constructor
  · rintro ⟨u, hu, hs⟩
    unfold sameB at hs
    simp only [Bool.and_eq_true, beq_iff_eq] at hs
    exact ⟨hs.2.2, u, hu, by rw [hs.1, hs.2.1]⟩
  · rintro ⟨ho, u, hu, he⟩
    injection he with h1 h2
    refine ⟨u, hu, ?_⟩
    unfold sameB
    rw [h1, h2, ho]
    simp
theorem taken_ev (l : List Vx) (p : Int) (i : Nat) (hi : i < l.length) (hl : l.length ≤ 24) (ks : List (Int × Int)) (hk : Seen l i ks) : Ev (fun k => tidemillref05_taken.f k l p (i : Int)) ((fmOf (vAt l (i : Int)).f0).own && decide (((vAt l (i : Int)).f0, (vAt l (i : Int)).f3) ∈ ks)) := by
  unfold tidemillref05_taken.f
  simp only [if_pos (show (0 : Int) ≤ (i : Int) by omega), if_pos (show (i : Int) < (l.length : Int) by omega)]
  rw [← seen_any hk]
  have := taken_l0 l p i hi hl i 0 (by omega)
  rw [List.drop_zero] at this
  exact this
/-! ### a vertex -/
theorem sinks_l1 (l : List Vx) (p : Int) (v : Vx) (hm : v.f1.length ≤ 9223372036854775807) (hx : ∀ x ∈ v.f1, 0 ≤ x ∧ x < (l.length : Int)) (h9 : v.f0 = 9 → v.f1.length = 2) : ∀ (d j : Nat), j + d = v.f1.length →
    Ev (fun k => tidemillref05_vertex.l1 k (j : Int) l p v.f0 v.f1 v.f2.f0 v.f2.f1 v.f2.f2 v.f3) (if (v.f1.drop j).any (sinkB l) = true then 5 else if v.f0 = 9 ∧ (vAt l (rd v.f1 1)).f0 ≠ 6 then 5 else 0) := by
  intro d
  induction d with
  | zero =>
    intro j hj
    rw [List.drop_of_length_le (by omega), List.any_nil, if_neg (by decide)]
    refine Ev.step (f := fun _ => if v.f0 = 9 then (if (vAt l (rd v.f1 1)).f0 = 6 then (some 0) else (some 5)) else (some 0)) (fun k => ?_) (ev_const ?_)
    · simp only [tidemillref05_vertex.l1]
      rw [if_neg (by omega)]
      by_cases h : v.f0 = 9
      · have h2 := h9 h
        have hx1 := hx _ (rd_memI v.f1 1 (by omega))
        change 0 ≤ rd v.f1 1 ∧ rd v.f1 1 < _ at hx1
        rw [if_pos h, if_pos h, if_pos (by omega), if_pos hx1.1, if_pos hx1.2, vAt_rd]
      · rw [if_neg h, if_neg h]
    · by_cases h : v.f0 = 9
      · rw [if_pos h]
        by_cases h6 : (vAt l (rd v.f1 1)).f0 = 6
        · rw [if_pos h6, if_neg (fun hh => hh.2 h6)]
        · rw [if_neg h6, if_pos ⟨h, h6⟩]
      · rw [if_neg h, if_neg (fun hh => h hh.1)]
  | succ d ih =>
    intro j hj
    have hlt : j < v.f1.length := by omega
    have hx1 := hx _ (rd_memI v.f1 j hlt)
    rw [rd_cons hlt, List.any_cons]
    generalize hxx : rd v.f1 (j : Int) = x at hx1
    refine Ev.step (f := fun k => if (vAt l x).f0 = 10 then (some 5) else (tidemillref05_vertex.l1 k ((j + 1 : Nat) : Int) l p v.f0 v.f1 v.f2.f0 v.f2.f1 v.f2.f2 v.f3)) (fun k => ?_) ?_
    · simp only [tidemillref05_vertex.l1]
      rw [if_pos (by omega), if_pos (by omega), hxx, if_pos hx1.1, if_pos hx1.2, vAt_rd, wrapN (by omega)]
    · by_cases h : (vAt l x).f0 = 10
      · simp only [if_pos h]
        rw [show sinkB l x = true by unfold sinkB; simpa using h, Bool.true_or, if_pos rfl]
        exact Ev.now _
      · simp only [if_neg h]
        rw [show sinkB l x = false by unfold sinkB; simpa using h, Bool.false_or]
        exact ih (j + 1) (by omega)
theorem bads_l0 (l : List Vx) (p : Int) (i : Nat) (v : Vx) (hm : v.f1.length ≤ 9223372036854775807) (R : Int) (hR : v.f1.any (badB i) = false → Ev (fun k => (tidemillref05_Has.f k v.f0 v.f1 v.f2.f0 v.f2.f1 v.f2.f2 v.f3).bind fun t191 => (if t191 = true then ((tidemillref05_taken.f k l p (i : Int)).bind fun t192 => (if t192 = true then (some 12) else (tidemillref05_vertex.l1 k 0 l p v.f0 v.f1 v.f2.f0 v.f2.f1 v.f2.f2 v.f3))) else (some 5))) R) : ∀ (d j : Nat), j + d = v.f1.length → (v.f1.take j).any (badB i) = false →
    Ev (fun k => tidemillref05_vertex.l0 k (i : Int) (j : Int) l p v.f0 v.f1 v.f2.f0 v.f2.f1 v.f2.f2 v.f3) (if v.f1.any (badB i) = true then 2 else R) := by
  intro d
  induction d with
  | zero =>
    intro j hj hb
    rw [List.take_of_length_le (by omega)] at hb
    rw [hb, if_neg (by decide)]
    refine Ev.step (fun k => ?_) (hR hb)
    simp only [tidemillref05_vertex.l0]
    rw [if_neg (by omega)]
  | succ d ih =>
    intro j hj hb
    have hlt : j < v.f1.length := by omega
    have ht := take_any (badB i) v.f1 j hlt
    have hany := fun h => any_of_take (g := badB i) hlt h
    generalize hxx : rd v.f1 (j : Int) = x at ht hany
    refine Ev.step (f := fun k => if x < 0 then (some 2) else (if x ≥ (i : Int) then (some 2) else (tidemillref05_vertex.l0 k (i : Int) ((j + 1 : Nat) : Int) l p v.f0 v.f1 v.f2.f0 v.f2.f1 v.f2.f2 v.f3))) (fun k => ?_) ?_
    · simp only [tidemillref05_vertex.l0]
      rw [if_pos (by omega), if_pos (by omega), hxx, wrapN (by omega)]
    · by_cases h1 : x < 0
      · simp only [if_pos h1]
        rw [if_pos (hany (by unfold badB; rw [decide_eq_true h1]; rfl))]
        exact Ev.now _
      · simp only [if_neg h1]
        by_cases h2 : x ≥ (i : Int)
        · simp only [if_pos h2]
          rw [if_pos (hany (by unfold badB; rw [decide_eq_true (show (i : Int) ≤ x from h2), Bool.or_true]))]
          exact Ev.now _
        · simp only [if_neg h2]
          exact ih (j + 1) (by omega) (by rw [ht, hb, Bool.false_or]; unfold badB; rw [decide_eq_false h1, decide_eq_false (show ¬ (i : Int) ≤ x from h2)]; rfl)
theorem refVertex_ev (l : List Vx) (p : Int) (i : Nat) (hi : i < l.length) (hl : l.length ≤ 24) (ks : List (Int × Int)) (hk : Seen l i ks) (hm : (vAt l (i : Int)).f1.length ≤ 9223372036854775807) : Ev (fun k => tidemillref05_vertex.f k l p (i : Int)) (vertOf l i (vAt l (i : Int)) ks) := by
  have htk := taken_ev l p i hi hl ks hk
  obtain ⟨v, hv⟩ : ∃ v, vAt l (i : Int) = v := ⟨_, rfl⟩
  rw [hv] at htk hm ⊢
  unfold tidemillref05_vertex.f
  simp only [if_pos (show (0 : Int) ≤ (i : Int) by omega), if_pos (show (i : Int) < (l.length : Int) by omega), show rd_T40 l (i : Int) = v from hv]
  by_cases h1 : v.f0 < 1
  · simp only [if_pos h1]
    rw [vert1 (.inl h1)]
    exact Ev.step (f := fun _ => some 1) (fun k => by simp only [tidemillref05_vertex.j0, if_true]) (Ev.now _)
  simp only [if_neg h1]
  by_cases h2 : v.f0 > 10
  · rw [vert1 (.inr h2), decide_eq_true h2]
    exact Ev.step (f := fun _ => some 1) (fun k => by simp only [tidemillref05_vertex.j0, if_true]) (Ev.now _)
  rw [decide_eq_false h2]
  have hkd : ¬ (v.f0 < 1 ∨ 10 < v.f0) := by omega
  refine Ev.step (fun k => by simp only [tidemillref05_vertex.j0, Bool.false_eq_true, if_false]; rfl) ?_
  have hh := refHas_ev v (by omega)
  have key := bads_l0 l p i v hm (if hasB (fmOf v.f0) v = false then 5 else if ((fmOf v.f0).own && decide ((v.f0, v.f3) ∈ ks)) = true then 12 else if v.f1.any (sinkB l) = true then 5 else if v.f0 = 9 ∧ (vAt l (rd v.f1 1)).f0 ≠ 6 then 5 else 0) (fun hb => ?_) v.f1.length 0 (by omega) rfl
  · have he : vertOf l i v ks = (if v.f1.any (badB i) = true then 2 else (if hasB (fmOf v.f0) v = false then 5 else if ((fmOf v.f0).own && decide ((v.f0, v.f3) ∈ ks)) = true then 12 else if v.f1.any (sinkB l) = true then 5 else if v.f0 = 9 ∧ (vAt l (rd v.f1 1)).f0 ≠ 6 then 5 else 0)) := by
      unfold vertOf
      rw [if_neg hkd]
      simp only [Bool.and_eq_true, decide_eq_true_eq]
    rw [he]
    exact key
  · refine Ev.bind hh ?_
    cases hhb : hasB (fmOf v.f0) v with
    | false =>
      simp only [Bool.false_eq_true, if_false, if_true]
      exact Ev.now _
    | true =>
      simp only [if_true, Bool.true_eq_false, if_false]
      refine Ev.bind htk ?_
      cases (fmOf v.f0).own && decide ((v.f0, v.f3) ∈ ks) with
      | true =>
        simp only [if_true]
        exact Ev.now _
      | false =>
        simp only [Bool.false_eq_true, if_false]
        have hx : ∀ x ∈ v.f1, 0 ≤ x ∧ x < (l.length : Int) := fun x hx => by
          have h3 := List.any_eq_false.1 hb x hx
          unfold badB at h3
          simp at h3
          omega
        have := sinks_l1 l p v hm hx (fun h9 => by
          rw [h9] at hhb
          unfold hasB at hhb
          simp [fmOf] at hhb
          omega) v.f1.length 0 (by omega)
        rw [List.drop_zero] at this
        exact this
/-! ### the whole -/
theorem check_l0 (l : List Vx) (p : Int) (hl : l.length ≤ 24) (hm : ∀ v ∈ l, v.f1.length ≤ 9223372036854775807) : ∀ (d i : Nat) (ks : List (Int × Int)), i + d = l.length → Seen l i ks → Ev (fun k => tidemillref05_Check.l0 k (i : Int) l p) (checkGo l i (l.drop i) ks) := by
  intro d
  induction d with
  | zero =>
    intro i ks hi hk
    rw [List.drop_of_length_le (by omega), checkGo]
    refine Ev.step (f := fun _ => some (-1, 0)) (fun k => ?_) (Ev.now _)
    simp only [tidemillref05_Check.l0]
    rw [if_neg (by omega)]
  | succ d ih =>
    intro i ks hi hk
    have hlt : i < l.length := by omega
    rw [drop_vAt hlt]
    refine Ev.step (f := fun k => (tidemillref05_vertex.f k l p (i : Int)).bind fun t198 => (if t198 = 0 then (tidemillref05_Check.l0 k ((i + 1 : Nat) : Int) l p) else (some ((i : Int), t198)))) (fun k => ?_) ?_
    · simp only [tidemillref05_Check.l0]
      rw [if_pos (by omega), wrapN (by omega)]
    · refine Ev.bind (refVertex_ev l p i hlt hl ks hk (hm _ (vAt_mem hlt))) ?_
      by_cases h : vertOf l i (vAt l (i : Int)) ks = 0
      · simp only [if_pos h]
        rw [checkGo_ok h]
        exact ih (i + 1) _ (by omega) (hk.next hlt)
      · simp only [if_neg h]
        rw [checkGo_bad rfl h]
        exact Ev.now _
theorem refCheck_ev (l : List Vx) (p : Int) (hm : ∀ v ∈ l, v.f1.length ≤ 9223372036854775807) : Ev (fun k => tidemillref05_Check.f k l p) (checkOf l p) := by
  have hT : Ev (fun k => tidemillref05_Check.j0 k true l p) (-1, 2) := Ev.step (f := fun _ => some (-1, 2)) (fun k => by simp only [tidemillref05_Check.j0, if_true]) (Ev.now _)
  unfold tidemillref05_Check.f checkOf
  by_cases h1 : p < 1
  · simp only [if_pos h1]
    rw [if_pos (.inl h1)]
    exact hT
  simp only [if_neg h1]
  by_cases h2 : p > 8
  · simp only [if_pos h2]
    rw [if_pos (.inr (.inl h2))]
    exact hT
  simp only [if_neg h2]
  by_cases h3 : (l.length : Int) < 1
  · simp only [if_pos h3]
    rw [if_pos (.inr (.inr (.inl (by omega))))]
    exact hT
  simp only [if_neg h3]
  by_cases h4 : (l.length : Int) > 24
  · rw [decide_eq_true h4, if_pos (.inr (.inr (.inr (by omega))))]
    exact hT
  rw [decide_eq_false h4, if_neg (by omega)]
  refine Ev.step (fun k => by simp only [tidemillref05_Check.j0, Bool.false_eq_true, if_false]; rfl) ?_
  have := check_l0 l p (by omega) hm l.length 0 [] (by omega) (Seen.start l)
  rw [List.drop_zero] at this
  exact this
end Go.Proofs.Yteanncfmaomhaaa.Ex
