/- (c11) Plain: what is told of logs and tasks; it only grows. -/
import Derived.Test.YtmnglonjekegcaaVwLT
namespace Go.Proofs.Ytmnglonjekegcaa.Vw
open Go Go.RowKit Go.Proofs.Ytmnglonjekegcaa.Rp
set_option linter.unusedVariables false
set_option linter.unusedSimpArgs false
theorem sortI_mem {l : List Int} {k : Int} : k ∈ sortI l ↔ k ∈ l := by unfold sortI; exact List.mem_mergeSort
theorem sortI_nodup {l : List Int} (h : l.Nodup) : (sortI l).Nodup := (List.mergeSort_perm l _).nodup_iff.2 h
structure KInv (st : St) : Prop where
  ndL : (st.L.map (·.f0)).Nodup
  ndT : (st.T.map (·.t.f0)).Nodup
theorem putL_nd {L : List S36} (h : (L.map (·.f0)).Nodup) (x : S47) : ((putL L x).map (·.f0)).Nodup := by
  unfold putL
  rw [modL_keys (f := addL x) (fun _ => rfl)]
  exact (ensL_keys h).1
theorem foldL_nd (o : List S47) : ∀ {L : List S36}, (L.map (·.f0)).Nodup → ((o.foldl putL L).map (·.f0)).Nodup := by
  induction o with
  | nil => exact fun h => h
  | cons x o ih => exact fun h => ih (putL_nd h x)
theorem KInv.step {st : St} (h : KInv st) (at_ : Int) (x : S47) : KInv (stepV st at_ x) := by
  have hm : ∀ f : TS → TS, (∀ s, (f s).t.f0 = s.t.f0) → ((modT (ensT st.T x.f1) x.f1 f).map (·.t.f0)).Nodup := fun f hf => by rw [modT_keys hf]; exact (ensT_keys h.ndT).1
  unfold stepV
  split
  · exact h
  · split
    · exact ⟨putL_nd h.ndL x, h.ndT⟩
    · split
      · refine ⟨h.ndL, ?_⟩
        show ((if _ then _ else _ : List TS).map _).Nodup
        split
        · exact hm _ fun _ => rfl
        · exact (ensT_keys h.ndT).1
      · split
        · exact ⟨h.ndL, (ensT_keys h.ndT).1⟩
        · split
          · exact ⟨h.ndL, hm _ fun _ => rfl⟩
          · split
            · exact ⟨foldL_nd _ h.ndL, hm _ fun _ => rfl⟩
            · exact ⟨h.ndL, hm _ fun _ => rfl⟩
theorem KInv.go (l : List S47) : ∀ {st : St} (i : Int), KInv st → KInv (goV st i l) := by
  induction l with
  | nil => exact fun i h => h
  | cons x l ih => exact fun i h => ih (i + 1) (h.step i x)
theorem KInv.through (l : List S47) : KInv (throughV l) := KInv.go l 0 ⟨by simp, by simp⟩
theorem told_logs {l : List S47} {a : S36} : a ∈ (readV l).f0 ↔ a ∈ (throughV l).L := by
  have hk := (KInv.through l).ndL
  unfold readV
  rw [List.mem_map]
  constructor
  · rintro ⟨k, hk2, rfl⟩
    obtain ⟨b, hb, rfl⟩ := List.mem_map.1 (sortI_mem.1 hk2)
    rw [getLV_of hk hb]
    exact hb
  · intro h
    exact ⟨a.f0, sortI_mem.2 (List.mem_map.2 ⟨a, h, rfl⟩), getLV_of hk h⟩
theorem told_keys (l : List S47) : (readV l).f0.map (·.f0) = sortI ((throughV l).L.map (·.f0)) := by
  have hk := (KInv.through l).ndL
  unfold readV
  rw [List.map_map]
  conv => rhs; rw [← List.map_id (sortI ((throughV l).L.map (·.f0)))]
  refine List.map_congr_left fun k hk2 => ?_
  obtain ⟨b, hb, rfl⟩ := List.mem_map.1 (sortI_mem.1 hk2)
  show (getLV _ b.f0).f0 = _
  rw [getLV_of hk hb]
  rfl
/-- A log that is there is told. -/
theorem told_log {l : List S47} {a : S36} (h : a ∈ (throughV l).L) : getLV (readV l).f0 a.f0 = a :=
  getLV_of (by rw [told_keys]; exact sortI_nodup (KInv.through l).ndL) (told_logs.2 h)
theorem told_tasks {l : List S47} {a : S41} : a ∈ (readV l).f1 ↔ ∃ s ∈ (throughV l).T, toldT s = a := by
  have hk := (KInv.through l).ndT
  unfold readV
  rw [List.mem_map]
  constructor
  · rintro ⟨k, hk2, rfl⟩
    obtain ⟨b, hb, rfl⟩ := List.mem_map.1 (sortI_mem.1 hk2)
    rw [getT_in hk hb]
    exact ⟨b, hb, rfl⟩
  · rintro ⟨s, hs, rfl⟩
    exact ⟨s.t.f0, sortI_mem.2 (List.mem_map.2 ⟨s, hs, rfl⟩), by rw [getT_in hk hs]⟩
theorem told_keysT (l : List S47) : (readV l).f1.map (·.f0) = sortI ((throughV l).T.map (·.t.f0)) := by
  have hk := (KInv.through l).ndT
  unfold readV
  rw [List.map_map]
  conv => rhs; rw [← List.map_id (sortI ((throughV l).T.map (·.t.f0)))]
  refine List.map_congr_left fun k hk2 => ?_
  obtain ⟨b, hb, rfl⟩ := List.mem_map.1 (sortI_mem.1 hk2)
  show (toldT (getT _ b.t.f0)).f0 = _
  rw [getT_in hk hb]
  rfl
structure Gr (st st' : St) : Prop where
  logs : ∀ a ∈ st.L, ∃ b ∈ st'.L, b.f0 = a.f0 ∧ ∃ r, b.f1 = a.f1 ++ r
  tasks : ∀ s ∈ st.T, ∃ u ∈ st'.T, u.t.f0 = s.t.f0 ∧ s.t.f1 ≤ u.t.f1 ∧ s.t.f2 ≤ u.t.f2 ∧ s.t.f4.length ≤ u.t.f4.length
theorem Gr.refl (st : St) : Gr st st := ⟨fun a h => ⟨a, h, rfl, [], by simp⟩, fun s h => ⟨s, h, rfl, Int.le_refl _, Int.le_refl _, Nat.le_refl _⟩⟩
theorem Gr.trans {a b c : St} (h : Gr a b) (k : Gr b c) : Gr a c := by
  refine ⟨fun x hx => ?_, fun x hx => ?_⟩
  · obtain ⟨y, hy, e1, r1, q1⟩ := h.logs x hx
    obtain ⟨z, hz, e2, r2, q2⟩ := k.logs y hy
    exact ⟨z, hz, e2.trans e1, r1 ++ r2, by rw [q2, q1, List.append_assoc]⟩
  · obtain ⟨y, hy, e1, a1, a2, a3⟩ := h.tasks x hx
    obtain ⟨z, hz, e2, b1, b2, b3⟩ := k.tasks y hy
    exact ⟨z, hz, e2.trans e1, Int.le_trans a1 b1, Int.le_trans a2 b2, Nat.le_trans a3 b3⟩
theorem gr_put (L : List S36) (x : S47) : ∀ a ∈ L, ∃ b ∈ putL L x, b.f0 = a.f0 ∧ ∃ r, b.f1 = a.f1 ++ r := by
  intro a ha
  have h1 : a ∈ ensL L x.f4 := by
    unfold ensL
    split
    · exact ha
    · exact List.mem_append_left _ ha
  by_cases hk : a.f0 = x.f4
  · exact ⟨addL x a, List.mem_map.2 ⟨a, h1, by rw [if_pos hk]⟩, rfl, [x.f5], rfl⟩
  · exact ⟨a, List.mem_map.2 ⟨a, h1, by rw [if_neg hk]⟩, rfl, [], by simp⟩
theorem gr_fold (o : List S47) : ∀ (L : List S36), ∀ a ∈ L, ∃ b ∈ o.foldl putL L, b.f0 = a.f0 ∧ ∃ r, b.f1 = a.f1 ++ r := by
  induction o with
  | nil => exact fun L a h => ⟨a, h, rfl, [], by simp⟩
  | cons x o ih =>
    intro L a ha
    obtain ⟨b, hb, e1, r1, q1⟩ := gr_put L x a ha
    obtain ⟨c, hc, e2, r2, q2⟩ := ih (putL L x) b hb
    exact ⟨c, hc, e2.trans e1, r1 ++ r2, by rw [q2, q1, List.append_assoc]⟩
theorem gr_ens (T : List TS) (k : Int) : ∀ s ∈ T, s ∈ ensT T k := by
  intro s hs
  unfold ensT
  split
  · exact hs
  · exact List.mem_append_left _ hs
theorem gr_mod {T : List TS} {k : Int} {f : TS → TS} (hf : ∀ s ∈ ensT T k, s.t.f0 = k → (f s).t.f0 = s.t.f0 ∧ s.t.f1 ≤ (f s).t.f1 ∧ s.t.f2 ≤ (f s).t.f2 ∧ s.t.f4.length ≤ (f s).t.f4.length) :
    ∀ s ∈ T, ∃ u ∈ modT (ensT T k) k f, u.t.f0 = s.t.f0 ∧ s.t.f1 ≤ u.t.f1 ∧ s.t.f2 ≤ u.t.f2 ∧ s.t.f4.length ≤ u.t.f4.length := by
  intro s hs
  have h1 := gr_ens T k s hs
  by_cases hk : s.t.f0 = k
  · exact ⟨f s, List.mem_map.2 ⟨s, h1, by rw [if_pos hk]⟩, hf s h1 hk⟩
  · exact ⟨s, List.mem_map.2 ⟨s, h1, by rw [if_neg hk]⟩, rfl, Int.le_refl _, Int.le_refl _, Nat.le_refl _⟩
theorem Gr.step {st : St} (h : KInv st) (at_ : Int) (x : S47) : Gr st (stepV st at_ x) := by
  have hL : ∀ a ∈ st.L, ∃ b ∈ st.L, b.f0 = a.f0 ∧ ∃ r, b.f1 = a.f1 ++ r := (Gr.refl st).logs
  have hE : ∀ s ∈ st.T, ∃ u ∈ ensT st.T x.f1, u.t.f0 = s.t.f0 ∧ s.t.f1 ≤ u.t.f1 ∧ s.t.f2 ≤ u.t.f2 ∧ s.t.f4.length ≤ u.t.f4.length := fun s hs => ⟨s, gr_ens _ _ s hs, rfl, Int.le_refl _, Int.le_refl _, Nat.le_refl _⟩
  unfold stepV
  split
  · exact Gr.refl st
  · split
    · exact ⟨gr_put st.L x, (Gr.refl st).tasks⟩
    · split
      · refine ⟨hL, ?_⟩
        dsimp only
        split
        · rename_i hlt
          refine gr_mod fun s hs hk => ?_
          rw [getT_of h.ndT hs hk] at hlt
          exact ⟨rfl, Int.le_of_lt hlt, Int.le_refl _, Nat.le_refl _⟩
        · exact hE
      · split
        · exact ⟨hL, hE⟩
        · split
          · exact ⟨hL, gr_mod fun s _ _ => ⟨rfl, Int.le_refl _, Int.le_refl _, Nat.le_refl _⟩⟩
          · split
            · refine ⟨gr_fold _ st.L, gr_mod fun s _ _ => ⟨rfl, Int.le_refl _, ?_, ?_⟩⟩
              · show s.t.f2 ≤ s.t.f2 + 1; omega
              · show s.t.f4.length ≤ (s.t.f4 ++ x.f8).length
                rw [List.length_append]; omega
            · refine ⟨hL, gr_mod fun s _ _ => ⟨rfl, Int.le_refl _, ?_, Nat.le_refl _⟩⟩
              show s.t.f2 ≤ s.t.f2 + 1; omega
theorem Gr.go (l : List S47) : ∀ {st : St} (i : Int), KInv st → Gr st (goV st i l) := by
  induction l with
  | nil => exact fun i _ => Gr.refl _
  | cons x l ih => exact fun i h => (Gr.step h i x).trans (ih (i + 1) (h.step i x))
theorem Gr.through (l m : List S47) : Gr (throughV l) (throughV (l ++ m)) := by
  have : throughV (l ++ m) = goV (throughV l) (0 + l.length) m := by unfold throughV; rw [goV_append]
  rw [this]
  exact Gr.go m _ (KInv.through l)
end Go.Proofs.Ytmnglonjekegcaa.Vw
namespace Go.Proofs.Ytmnglonjekegcaa.Vw
open Go Go.RowKit Go.Proofs.Ytmnglonjekegcaa.Rp
set_option linter.unusedVariables false
set_option linter.unusedSimpArgs false
theorem getLV_cons (a : S36) (L : List S36) (k : Int) : getLV (a :: L) k = if a.f0 = k then a else getLV L k := by
  unfold getLV
  rw [List.find?_cons]
  by_cases h : a.f0 = k
  · rw [if_pos h, show (a.f0 == k) = true by simpa using h]; rfl
  · rw [if_neg h, show (a.f0 == k) = false by simpa using h]
theorem getLV_snoc (L : List S36) (j k : Int) : getLV (L ++ [⟨j, [], []⟩]) k = getLV L k := by
  induction L with
  | nil =>
    rw [List.nil_append, getLV_cons]
    split
    · rename_i h; subst h; rfl
    · rfl
  | cons a L ih => rw [List.cons_append, getLV_cons, getLV_cons, ih]
theorem getLV_ens (L : List S36) (j k : Int) : getLV (ensL L j) k = getLV L k := by
  unfold ensL
  split
  · rfl
  · exact getLV_snoc L j k
theorem getLV_mod (L : List S36) (j k : Int) (f : S36 → S36) (hf : ∀ l, (f l).f0 = l.f0) (hj : j ∈ L.map (·.f0)) : getLV (modL L j f) k = if k = j then f (getLV L k) else getLV L k := by
  induction L with
  | nil => cases hj
  | cons a L ih =>
    show getLV ((if a.f0 = j then f a else a) :: modL L j f) k = _
    rw [getLV_cons, getLV_cons]
    have e0 : (if a.f0 = j then f a else a).f0 = a.f0 := by split; exact hf a; rfl
    rw [e0]
    by_cases hk : a.f0 = k
    · rw [if_pos hk, if_pos hk]
      by_cases hkj : k = j
      · rw [if_pos hkj, if_pos (hk.trans hkj)]
      · rw [if_neg hkj, if_neg (fun e => hkj (hk.symm.trans e))]
    · rw [if_neg hk, if_neg hk]
      by_cases hm : j ∈ L.map (·.f0)
      · exact ih hm
      · have haj : a.f0 = j := by
          rw [List.map_cons] at hj
          rcases List.mem_cons.1 hj with h | h
          · exact h.symm
          · exact absurd h hm
        have hkj : ¬ k = j := fun e => hk (haj.trans e.symm)
        rw [if_neg hkj]
        congr 1
        unfold modL
        conv => rhs; rw [← List.map_id L]
        refine List.map_congr_left fun b hb => ?_
        rw [if_neg]
        · rfl
        · exact fun e => hm (List.mem_map.2 ⟨b, hb, e⟩)
/-- A record put: its log has one more, the others stay. -/
theorem getLV_put (L : List S36) (x : S47) (k : Int) : getLV (putL L x) k = if k = x.f4 then addL x (getLV L k) else getLV L k := by
  unfold putL
  have hm : x.f4 ∈ (ensL L x.f4).map (·.f0) := by
    unfold ensL
    split
    · rename_i h; exact hasL_iff.1 h
    · simp
  rw [getLV_mod _ _ _ (addL x) (fun _ => rfl) hm, getLV_ens]
theorem getLV_no {L : List S36} {k : Int} (h : k ∉ L.map (·.f0)) : getLV L k = ⟨k, [], []⟩ := by
  unfold getLV
  rw [List.find?_eq_none.2 (fun a ha => by simpa using fun e => h (List.mem_map.2 ⟨a, ha, e⟩))]
  rfl
/-- What is told of a log, there or not. -/
theorem told_get (l : List S47) (k : Int) : getLV (readV l).f0 k = getLV (throughV l).L k := by
  by_cases h : k ∈ (throughV l).L.map (·.f0)
  · obtain ⟨a, ha, rfl⟩ := List.mem_map.1 h
    rw [told_log ha, getLV_of (KInv.through l).ndL ha]
  · rw [getLV_no h, getLV_no (by rw [told_keys, sortI_mem]; exact h)]
end Go.Proofs.Ytmnglonjekegcaa.Vw
namespace Go.Proofs.Ytmnglonjekegcaa.Vw
open Go Go.RowKit Go.Proofs.Ytmnglonjekegcaa.Rp
set_option linter.unusedVariables false
set_option linter.unusedSimpArgs false
/-- Is it a task's entry? -/
def tk (x : S47) : Bool := mayE x && (decide (2 ≤ x.f0) && decide (x.f0 ≤ 5))
def stepO (at_ : Int) (x : S47) (s : TS) : TS :=
  if x.f0 = 5 then (if s.t.f1 < x.f2 then fenceT x s else s)
  else if x.f2 ≠ s.t.f1 ∨ x.f3 ≠ s.t.f2 then s
  else if x.f0 = 2 then openT at_ x s
  else if x.f0 = 3 then endT (offsT x s)
  else endT s
theorem stepO_key (at_ : Int) (x : S47) (s : TS) : (stepO at_ x s).t.f0 = s.t.f0 := by
  unfold stepO
  split
  · split <;> rfl
  · split
    · rfl
    · split
      · rfl
      · split <;> rfl
def stepT (T : List TS) (at_ : Int) (x : S47) : List TS := if tk x = true then modT (ensT T x.f1) x.f1 (stepO at_ x) else T
/-- What an entry puts into logs, with the places. -/
def putsAt (T : List TS) (at_ : Int) (x : S47) : List (Int × S47) :=
  if mayE x = true ∧ x.f0 = 1 then [(at_, x)]
  else if tk x = true ∧ x.f0 = 3 ∧ x.f2 = (getT T x.f1).t.f1 ∧ x.f3 = (getT T x.f1).t.f2 then (getT T x.f1).o else []
theorem modT_congr {T : List TS} {k : Int} {f g : TS → TS} (h : ∀ s ∈ T, s.t.f0 = k → f s = g s) : modT T k f = modT T k g := by
  unfold modT
  refine List.map_congr_left fun s hs => ?_
  split
  · rename_i e; exact h s hs e
  · rfl
theorem modT_id {T : List TS} {k : Int} {f : TS → TS} (h : ∀ s ∈ T, s.t.f0 = k → f s = s) : modT T k f = T := by
  rw [modT_congr (g := id) h]
  unfold modT
  conv => rhs; rw [← List.map_id T]
  refine List.map_congr_left fun s hs => ?_
  split <;> rfl
theorem kind_of {x : S47} (hm : mayE x = true) (h6 : ¬ x.f0 = 6) (h1 : ¬ x.f0 = 1) : tk x = true := by
  have := may_nums hm
  unfold tk
  rw [hm]
  simp only [Bool.true_and, Bool.and_eq_true, decide_eq_true_eq]
  omega
theorem tk_of {x : S47} (h : tk x = true) : mayE x = true ∧ 2 ≤ x.f0 ∧ x.f0 ≤ 5 := by
  unfold tk at h
  simp only [Bool.and_eq_true, decide_eq_true_eq] at h
  exact h
/-- A step: what is put, and the task that is meant. -/
theorem step_split {st : St} (h : KInv st) (at_ : Int) (x : S47) : stepV st at_ x = ⟨((putsAt st.T at_ x).map Prod.snd).foldl putL st.L, stepT st.T at_ x⟩ := by
  have hg : ∀ s ∈ ensT st.T x.f1, s.t.f0 = x.f1 → getT st.T x.f1 = s := fun s hs e => getT_of h.ndT hs e
  by_cases h0 : mayE x = false ∨ x.f0 = 6
  · have h1 : tk x = false := by
      cases hh : tk x with
      | false => rfl
      | true =>
        have := tk_of hh
        rcases h0 with e | e
        · rw [this.1] at e; cases e
        · omega
    have h2 : ¬ (mayE x = true ∧ x.f0 = 1) := fun e => h0.elim (fun e2 => by rw [e.1] at e2; cases e2) (fun e2 => by omega)
    unfold stepV stepT putsAt
    rw [if_pos h0, h1, if_neg h2]
    simp
  · have hm : mayE x = true := by
      cases hh : mayE x with
      | true => rfl
      | false => exact absurd (.inl hh) h0
    by_cases h1 : x.f0 = 1
    · have h2 : tk x = false := by
        cases hh : tk x with
        | false => rfl
        | true => have := tk_of hh; omega
      rw [stepV_in h0 h1]
      unfold stepT putsAt
      rw [h2, if_pos ⟨hm, h1⟩]
      simp
    · have ht := kind_of hm (fun e => h0 (.inr e)) h1
      have hn : ¬ (mayE x = true ∧ x.f0 = 1) := fun e => h1 e.2
      have hT : stepT st.T at_ x = modT (ensT st.T x.f1) x.f1 (stepO at_ x) := by unfold stepT; rw [if_pos ht]
      by_cases h5 : x.f0 = 5
      · have hp : putsAt st.T at_ x = [] := by unfold putsAt; rw [if_neg hn, if_neg (fun e => by omega)]
        rw [hp, hT]
        by_cases hlt : (getT st.T x.f1).t.f1 < x.f2
        · rw [stepV_fence h0 h1 h5 rfl hlt]
          show St.mk _ _ = St.mk _ _
          congr 1
          refine modT_congr fun s hs e => ?_
          rw [hg s hs e] at hlt
          unfold stepO
          rw [if_pos h5, if_pos hlt]
        · rw [stepV_nofence h0 h1 h5 rfl hlt]
          show St.mk _ _ = St.mk _ _
          congr 1
          refine (modT_id fun s hs e => ?_).symm
          rw [hg s hs e] at hlt
          unfold stepO
          rw [if_pos h5, if_neg hlt]
      · by_cases hne : x.f2 ≠ (getT st.T x.f1).t.f1 ∨ x.f3 ≠ (getT st.T x.f1).t.f2
        · have hp : putsAt st.T at_ x = [] := by unfold putsAt; rw [if_neg hn, if_neg (fun e => hne.elim (fun k => k e.2.2.1) (fun k => k e.2.2.2))]
          rw [stepV_other h0 h1 h5 rfl hne, hp, hT]
          show St.mk _ _ = St.mk _ _
          congr 1
          refine (modT_id fun s hs e => ?_).symm
          rw [hg s hs e] at hne
          unfold stepO
          rw [if_neg h5, if_pos hne]
        · have he : x.f2 = (getT st.T x.f1).t.f1 ∧ x.f3 = (getT st.T x.f1).t.f2 := ⟨Decidable.byContradiction fun k => hne (.inl k), Decidable.byContradiction fun k => hne (.inr k)⟩
          by_cases h2 : x.f0 = 2
          · have hp : putsAt st.T at_ x = [] := by unfold putsAt; rw [if_neg hn, if_neg (fun e => by omega)]
            rw [stepV_data h0 h1 h5 rfl he.1 he.2 h2, hp, hT]
            show St.mk _ _ = St.mk _ _
            congr 1
            refine modT_congr fun s hs e => ?_
            rw [hg s hs e] at hne
            unfold stepO
            rw [if_neg h5, if_neg hne, if_pos h2]
          · rw [stepV_end h0 h1 h5 rfl he.1 he.2 h2, hT]
            by_cases h3 : x.f0 = 3
            · have hp : putsAt st.T at_ x = (getT st.T x.f1).o := by unfold putsAt; rw [if_neg hn, if_pos ⟨ht, h3, he⟩]
              rw [hp, if_pos h3]
              show St.mk _ _ = St.mk _ _
              congr 1
              refine modT_congr fun s hs e => ?_
              rw [hg s hs e] at hne
              unfold stepO
              simp only [if_neg h5, if_neg hne, if_neg h2, if_pos h3]
            · have hp : putsAt st.T at_ x = [] := by unfold putsAt; rw [if_neg hn, if_neg (fun e => h3 e.2.1)]
              rw [hp, if_neg h3]
              show St.mk _ _ = St.mk _ _
              congr 1
              refine modT_congr fun s hs e => ?_
              rw [hg s hs e] at hne
              unfold stepO
              simp only [if_neg h5, if_neg hne, if_neg h2, if_neg h3]
theorem getT_cons (a : TS) (T : List TS) (k : Int) : getT (a :: T) k = if a.t.f0 = k then a else getT T k := by
  unfold getT
  rw [List.find?_cons]
  by_cases h : a.t.f0 = k
  · rw [if_pos h, show (a.t.f0 == k) = true by simpa using h]; rfl
  · rw [if_neg h, show (a.t.f0 == k) = false by simpa using h]
theorem getT_snoc (T : List TS) (j k : Int) : getT (T ++ [newT j]) k = getT T k := by
  induction T with
  | nil =>
    rw [List.nil_append, getT_cons]
    split
    · rename_i h; change j = k at h; subst h; rfl
    · rfl
  | cons a T ih => rw [List.cons_append, getT_cons, getT_cons, ih]
theorem getT_ens (T : List TS) (j k : Int) : getT (ensT T j) k = getT T k := by
  unfold ensT
  split
  · rfl
  · exact getT_snoc T j k
theorem getT_mod (T : List TS) (j k : Int) (f : TS → TS) (hf : ∀ s, (f s).t.f0 = s.t.f0) (hj : j ∈ T.map (·.t.f0)) : getT (modT T j f) k = if k = j then f (getT T k) else getT T k := by
  induction T with
  | nil => cases hj
  | cons a T ih =>
    show getT ((if a.t.f0 = j then f a else a) :: modT T j f) k = _
    rw [getT_cons, getT_cons]
    have e0 : (if a.t.f0 = j then f a else a).t.f0 = a.t.f0 := by split; exact hf a; rfl
    rw [e0]
    by_cases hk : a.t.f0 = k
    · rw [if_pos hk, if_pos hk]
      by_cases hkj : k = j
      · rw [if_pos hkj, if_pos (hk.trans hkj)]
      · rw [if_neg hkj, if_neg (fun e => hkj (hk.symm.trans e))]
    · rw [if_neg hk, if_neg hk]
      by_cases hm : j ∈ T.map (·.t.f0)
      · exact ih hm
      · have haj : a.t.f0 = j := by
          rw [List.map_cons] at hj
          rcases List.mem_cons.1 hj with h | h
          · exact h.symm
          · exact absurd h hm
        have hkj : ¬ k = j := fun e => hk (haj.trans e.symm)
        rw [if_neg hkj]
        congr 1
        exact modT_id fun b hb e => absurd (List.mem_map.2 ⟨b, hb, e⟩) hm
theorem hasT_ens_key (T : List TS) (k : Int) : k ∈ (ensT T k).map (·.t.f0) := by
  unfold ensT
  split
  · rename_i h; exact hasT_iff.1 h
  · simp [newT]
theorem getT_step (T : List TS) (at_ : Int) (x : S47) (k : Int) : getT (stepT T at_ x) k = if tk x = true ∧ k = x.f1 then stepO at_ x (getT T k) else getT T k := by
  unfold stepT
  by_cases h : tk x = true
  · rw [if_pos h, getT_mod _ _ _ (stepO at_ x) (stepO_key at_ x) (hasT_ens_key _ _), getT_ens]
    by_cases hk : k = x.f1
    · rw [if_pos hk, if_pos ⟨h, hk⟩]
    · rw [if_neg hk, if_neg fun e => hk e.2]
  · rw [if_neg h, if_neg fun e => h e.1]
theorem ens_mem (T : List TS) (j k : Int) : k ∈ (ensT T j).map (·.t.f0) ↔ k ∈ T.map (·.t.f0) ∨ k = j := by
  unfold ensT
  split
  · rename_i h
    constructor
    · exact .inl
    · rintro (h2 | rfl)
      · exact h2
      · exact hasT_iff.1 h
  · rw [List.map_append, List.mem_append]
    simp [newT]
theorem keys_step (T : List TS) (at_ : Int) (x : S47) (k : Int) : k ∈ (stepT T at_ x).map (·.t.f0) ↔ k ∈ T.map (·.t.f0) ∨ (tk x = true ∧ k = x.f1) := by
  unfold stepT
  by_cases h : tk x = true
  · rw [if_pos h, modT_keys (stepO_key at_ x), ens_mem]
    simp [h]
  · rw [if_neg h]
    simp [h]
def goT (T : List TS) (i : Int) : List S47 → List TS
  | [] => T
  | x :: l => goT (stepT T i x) (i + 1) l
def goP (T : List TS) (i : Int) : List S47 → List (Int × S47)
  | [] => []
  | x :: l => putsAt T i x ++ goP (stepT T i x) (i + 1) l
theorem goV_split (l : List S47) : ∀ {st : St} (i : Int), KInv st → goV st i l = ⟨((goP st.T i l).map Prod.snd).foldl putL st.L, goT st.T i l⟩ := by
  induction l with
  | nil => exact fun i _ => rfl
  | cons x l ih =>
    intro st i h
    rw [goV, ih (i + 1) (h.step i x), step_split h i x]
    show St.mk _ _ = St.mk _ _
    congr 1
    rw [goP, List.map_append, List.foldl_append]
def putsV (l : List S47) : List (Int × S47) := goP [] 0 l
theorem through_split (l : List S47) : throughV l = ⟨((putsV l).map Prod.snd).foldl putL [], goT [] 0 l⟩ := goV_split l (st := ⟨[], []⟩) 0 ⟨by simp, by simp⟩
def runO (i : Int) (s : TS) (k : Int) : List S47 → TS
  | [] => s
  | x :: l => runO (i + 1) (if tk x = true ∧ k = x.f1 then stepO i x s else s) k l
theorem getT_go (k : Int) (l : List S47) : ∀ (T : List TS) (i : Int), getT (goT T i l) k = runO i (getT T k) k l := by
  induction l with
  | nil => exact fun T i => rfl
  | cons x l ih =>
    intro T i
    rw [goT, ih, getT_step]
    rfl
theorem keys_go (k : Int) (l : List S47) : ∀ (T : List TS) (i : Int), k ∈ (goT T i l).map (·.t.f0) ↔ k ∈ T.map (·.t.f0) ∨ ∃ x ∈ l, tk x = true ∧ k = x.f1 := by
  induction l with
  | nil => intro T i; simp [goT]
  | cons x l ih =>
    intro T i
    rw [goT, ih, keys_step]
    simp only [List.mem_cons]
    constructor
    · rintro ((h | h) | ⟨y, hy, h⟩)
      · exact .inl h
      · exact .inr ⟨x, .inl rfl, h⟩
      · exact .inr ⟨y, .inr hy, h⟩
    · rintro (h | ⟨y, rfl | hy, h⟩)
      · exact .inl (.inl h)
      · exact .inl (.inr h)
      · exact .inr ⟨y, hy, h⟩
theorem goP_append (T : List TS) (i : Int) (l m : List S47) : goP T i (l ++ m) = goP T i l ++ goP (goT T i l) (i + l.length) m := by
  induction l generalizing T i with
  | nil => simp [goT, goP]
  | cons x l ih =>
    rw [List.cons_append, goP, goP, goT, ih, List.length_cons, List.append_assoc]
    congr 3
    omega
theorem getLV_puts (k : Int) (ps : List S47) : ∀ L : List S36, getLV (ps.foldl putL L) k = ⟨(getLV L k).f0, (getLV L k).f1 ++ (ps.filter fun x => k == x.f4).map (·.f5), (getLV L k).f2 ++ (ps.filter fun x => k == x.f4).map (·.f6)⟩ := by
  induction ps with
  | nil => intro L; simp
  | cons x ps ih =>
    intro L
    rw [List.foldl_cons, ih, getLV_put]
    by_cases h : k = x.f4
    · rw [if_pos h, List.filter_cons_of_pos (by simpa using h)]
      simp only [addL, List.map_cons, List.append_assoc, List.cons_append, List.nil_append]
    · rw [if_neg h, List.filter_cons_of_neg (by simpa using h)]
theorem keys_put (L : List S36) (x : S47) (k : Int) : k ∈ (putL L x).map (·.f0) ↔ k ∈ L.map (·.f0) ∨ k = x.f4 := by
  unfold putL
  rw [modL_keys (f := addL x) (fun _ => rfl)]
  unfold ensL
  split
  · rename_i h
    constructor
    · exact .inl
    · rintro (h2 | rfl)
      · exact h2
      · exact hasL_iff.1 h
  · rw [List.map_append, List.mem_append]
    simp
theorem keys_puts (k : Int) (ps : List S47) : ∀ L : List S36, k ∈ (ps.foldl putL L).map (·.f0) ↔ k ∈ L.map (·.f0) ∨ ∃ x ∈ ps, k = x.f4 := by
  induction ps with
  | nil => intro L; simp
  | cons x ps ih =>
    intro L
    rw [List.foldl_cons, ih, keys_put]
    simp only [List.mem_cons]
    constructor
    · rintro ((h | h) | ⟨y, hy, h⟩)
      · exact .inl h
      · exact .inr ⟨x, .inl rfl, h⟩
      · exact .inr ⟨y, .inr hy, h⟩
    · rintro (h | ⟨y, rfl | hy, h⟩)
      · exact .inl (.inl h)
      · exact .inl (.inr h)
      · exact .inr ⟨y, hy, h⟩
/-- The log k of what is put. -/
def logOf (k : Int) (ps : List S47) : S36 := ⟨k, (ps.filter fun x => k == x.f4).map (·.f5), (ps.filter fun x => k == x.f4).map (·.f6)⟩
/-- What is told: every log out of what is put. -/
theorem told_puts (l : List S47) (k : Int) : getLV (readV l).f0 k = logOf k ((putsV l).map Prod.snd) := by
  rw [told_get, through_split]
  show getLV (List.foldl putL [] _) k = _
  rw [getLV_puts]
  rfl
end Go.Proofs.Ytmnglonjekegcaa.Vw
