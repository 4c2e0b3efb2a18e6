/- (c11) Plain: what is told of logs and tasks; it only grows. -/
import Derived.Test.YtmnglonjekegcaaVwLT
namespace Go.Proofs.Ytmnglonjekegcaa.Vw
open Go Go.RowKit Go.Proofs.Ytmnglonjekegcaa.Rp
set_option linter.unusedVariables false
set_option linter.unusedSimpArgs false
theorem sortI_mem {l : List Int} {k : Int} : k ∈ sortI l ↔ k ∈ l := by unfold sortI; exact List.mem_mergeSort
theorem sortI_nodup {l : List Int} (h : l.Nodup) : (sortI l).Nodup := (List.mergeSort_perm l _).nodup_iff.2 h
/-! ### keys -/
structure KInv (st : St) : Prop where
  ndL : (st.L.map (·.f0)).Nodup
  ndT : (st.T.map (·.t.f0)).Nodup
theorem putL_nd {L : List S36} (h : (L.map (·.f0)).Nodup) (x : S47) : ((putL L x).map (·.f0)).Nodup := by
  unfold putL
  rw [modL_keys (f := addL x) (fun _ => rfl)]
  exact (ensL_keys h).1
theorem foldL_nd (o : List S47) : ∀ {L : List S36}, (L.map (·.f0)).Nodup → ((o.foldl putL L).map (·.f0)).Nodup := by
  induction o with
  | nil => exact fun h => h
  | cons x o ih => exact fun h => ih (putL_nd h x)
theorem KInv.step {st : St} (h : KInv st) (at_ : Int) (x : S47) : KInv (stepV st at_ x) := by
  have hm : ∀ f : TS → TS, (∀ s, (f s).t.f0 = s.t.f0) → ((modT (ensT st.T x.f1) x.f1 f).map (·.t.f0)).Nodup := fun f hf => by rw [modT_keys hf]; exact (ensT_keys h.ndT).1
  unfold stepV
  split
  · exact h
  · split
    · exact ⟨putL_nd h.ndL x, h.ndT⟩
    · split
      · refine ⟨h.ndL, ?_⟩
        show ((if _ then _ else _ : List TS).map _).Nodup
        split
        · exact hm _ fun _ => rfl
        · exact (ensT_keys h.ndT).1
      · split
        · exact ⟨h.ndL, (ensT_keys h.ndT).1⟩
        · split
          · exact ⟨h.ndL, hm _ fun _ => rfl⟩
          · split
            · exact ⟨foldL_nd _ h.ndL, hm _ fun _ => rfl⟩
            · exact ⟨h.ndL, hm _ fun _ => rfl⟩
theorem KInv.go (l : List S47) : ∀ {st : St} (i : Int), KInv st → KInv (goV st i l) := by
  induction l with
  | nil => exact fun i h => h
  | cons x l ih => exact fun i h => ih (i + 1) (h.step i x)
theorem KInv.through (l : List S47) : KInv (throughV l) := KInv.go l 0 ⟨by simp, by simp⟩
/-! ### what is told -/
theorem told_logs {l : List S47} {a : S36} : a ∈ (readV l).f0 ↔ a ∈ (throughV l).L := by
  have hk := (KInv.through l).ndL
  unfold readV
  rw [List.mem_map]
  constructor
  · rintro ⟨k, hk2, rfl⟩
    obtain ⟨b, hb, rfl⟩ := List.mem_map.1 (sortI_mem.1 hk2)
    rw [getLV_of hk hb]
    exact hb
  · intro h
    exact ⟨a.f0, sortI_mem.2 (List.mem_map.2 ⟨a, h, rfl⟩), getLV_of hk h⟩
theorem told_keys (l : List S47) : (readV l).f0.map (·.f0) = sortI ((throughV l).L.map (·.f0)) := by
  have hk := (KInv.through l).ndL
  unfold readV
  rw [List.map_map]
  conv => rhs; rw [← List.map_id (sortI ((throughV l).L.map (·.f0)))]
  refine List.map_congr_left fun k hk2 => ?_
  obtain ⟨b, hb, rfl⟩ := List.mem_map.1 (sortI_mem.1 hk2)
  show (getLV _ b.f0).f0 = _
  rw [getLV_of hk hb]
  rfl
/-- A log that is there is told. -/
theorem told_log {l : List S47} {a : S36} (h : a ∈ (throughV l).L) : getLV (readV l).f0 a.f0 = a :=
  getLV_of (by rw [told_keys]; exact sortI_nodup (KInv.through l).ndL) (told_logs.2 h)
theorem getTV_of {L : List S41} (nd : (L.map (·.f0)).Nodup) {l : S41} (hl : l ∈ L) : getTV L l.f0 = l := by
  unfold getTV
  induction L with
  | nil => cases hl
  | cons a L ih =>
    rw [List.map_cons, List.nodup_cons] at nd
    rw [List.find?_cons]
    rcases List.mem_cons.1 hl with rfl | hl2
    · simp
    · have hne : (a.f0 == l.f0) = false := by
        simp only [beq_eq_false_iff_ne, ne_eq]
        exact fun e => nd.1 (List.mem_map.2 ⟨l, hl2, e.symm⟩)
      rw [hne]
      exact ih nd.2 hl2
theorem told_tasks {l : List S47} {a : S41} : a ∈ (readV l).f1 ↔ ∃ s ∈ (throughV l).T, toldT s = a := by
  have hk := (KInv.through l).ndT
  unfold readV
  rw [List.mem_map]
  constructor
  · rintro ⟨k, hk2, rfl⟩
    obtain ⟨b, hb, rfl⟩ := List.mem_map.1 (sortI_mem.1 hk2)
    rw [getT_in hk hb]
    exact ⟨b, hb, rfl⟩
  · rintro ⟨s, hs, rfl⟩
    exact ⟨s.t.f0, sortI_mem.2 (List.mem_map.2 ⟨s, hs, rfl⟩), by rw [getT_in hk hs]⟩
theorem told_keysT (l : List S47) : (readV l).f1.map (·.f0) = sortI ((throughV l).T.map (·.t.f0)) := by
  have hk := (KInv.through l).ndT
  unfold readV
  rw [List.map_map]
  conv => rhs; rw [← List.map_id (sortI ((throughV l).T.map (·.t.f0)))]
  refine List.map_congr_left fun k hk2 => ?_
  obtain ⟨b, hb, rfl⟩ := List.mem_map.1 (sortI_mem.1 hk2)
  show (toldT (getT _ b.t.f0)).f0 = _
  rw [getT_in hk hb]
  rfl
theorem told_task {l : List S47} {s : TS} (h : s ∈ (throughV l).T) : getTV (readV l).f1 s.t.f0 = toldT s :=
  getTV_of (l := toldT s) (by rw [told_keysT]; exact sortI_nodup (KInv.through l).ndT) (told_tasks.2 ⟨s, h, rfl⟩)
/-! ### it only grows -/
structure Gr (st st' : St) : Prop where
  logs : ∀ a ∈ st.L, ∃ b ∈ st'.L, b.f0 = a.f0 ∧ ∃ r, b.f1 = a.f1 ++ r
  tasks : ∀ s ∈ st.T, ∃ u ∈ st'.T, u.t.f0 = s.t.f0 ∧ s.t.f1 ≤ u.t.f1 ∧ s.t.f2 ≤ u.t.f2 ∧ s.t.f4.length ≤ u.t.f4.length
theorem Gr.refl (st : St) : Gr st st := ⟨fun a h => ⟨a, h, rfl, [], by simp⟩, fun s h => ⟨s, h, rfl, Int.le_refl _, Int.le_refl _, Nat.le_refl _⟩⟩
theorem Gr.trans {a b c : St} (h : Gr a b) (k : Gr b c) : Gr a c := by
  refine ⟨fun x hx => ?_, fun x hx => ?_⟩
  · obtain ⟨y, hy, e1, r1, q1⟩ := h.logs x hx
    obtain ⟨z, hz, e2, r2, q2⟩ := k.logs y hy
    exact ⟨z, hz, e2.trans e1, r1 ++ r2, by rw [q2, q1, List.append_assoc]⟩
  · obtain ⟨y, hy, e1, a1, a2, a3⟩ := h.tasks x hx
    obtain ⟨z, hz, e2, b1, b2, b3⟩ := k.tasks y hy
    exact ⟨z, hz, e2.trans e1, Int.le_trans a1 b1, Int.le_trans a2 b2, Nat.le_trans a3 b3⟩
theorem gr_put (L : List S36) (x : S47) : ∀ a ∈ L, ∃ b ∈ putL L x, b.f0 = a.f0 ∧ ∃ r, b.f1 = a.f1 ++ r := by
  intro a ha
  have h1 : a ∈ ensL L x.f4 := by
    unfold ensL
    split
    · exact ha
    · exact List.mem_append_left _ ha
  by_cases hk : a.f0 = x.f4
  · exact ⟨addL x a, List.mem_map.2 ⟨a, h1, by rw [if_pos hk]⟩, rfl, [x.f5], rfl⟩
  · exact ⟨a, List.mem_map.2 ⟨a, h1, by rw [if_neg hk]⟩, rfl, [], by simp⟩
theorem gr_fold (o : List S47) : ∀ (L : List S36), ∀ a ∈ L, ∃ b ∈ o.foldl putL L, b.f0 = a.f0 ∧ ∃ r, b.f1 = a.f1 ++ r := by
  induction o with
  | nil => exact fun L a h => ⟨a, h, rfl, [], by simp⟩
  | cons x o ih =>
    intro L a ha
    obtain ⟨b, hb, e1, r1, q1⟩ := gr_put L x a ha
    obtain ⟨c, hc, e2, r2, q2⟩ := ih (putL L x) b hb
    exact ⟨c, hc, e2.trans e1, r1 ++ r2, by rw [q2, q1, List.append_assoc]⟩
theorem gr_ens (T : List TS) (k : Int) : ∀ s ∈ T, s ∈ ensT T k := by
  intro s hs
  unfold ensT
  split
  · exact hs
  · exact List.mem_append_left _ hs
theorem gr_mod {T : List TS} {k : Int} {f : TS → TS} (hf : ∀ s ∈ ensT T k, s.t.f0 = k → (f s).t.f0 = s.t.f0 ∧ s.t.f1 ≤ (f s).t.f1 ∧ s.t.f2 ≤ (f s).t.f2 ∧ s.t.f4.length ≤ (f s).t.f4.length) :
    ∀ s ∈ T, ∃ u ∈ modT (ensT T k) k f, u.t.f0 = s.t.f0 ∧ s.t.f1 ≤ u.t.f1 ∧ s.t.f2 ≤ u.t.f2 ∧ s.t.f4.length ≤ u.t.f4.length := by
  intro s hs
  have h1 := gr_ens T k s hs
  by_cases hk : s.t.f0 = k
  · exact ⟨f s, List.mem_map.2 ⟨s, h1, by rw [if_pos hk]⟩, hf s h1 hk⟩
  · exact ⟨s, List.mem_map.2 ⟨s, h1, by rw [if_neg hk]⟩, rfl, Int.le_refl _, Int.le_refl _, Nat.le_refl _⟩
theorem Gr.step {st : St} (h : KInv st) (at_ : Int) (x : S47) : Gr st (stepV st at_ x) := by
  have hL : ∀ a ∈ st.L, ∃ b ∈ st.L, b.f0 = a.f0 ∧ ∃ r, b.f1 = a.f1 ++ r := (Gr.refl st).logs
  have hE : ∀ s ∈ st.T, ∃ u ∈ ensT st.T x.f1, u.t.f0 = s.t.f0 ∧ s.t.f1 ≤ u.t.f1 ∧ s.t.f2 ≤ u.t.f2 ∧ s.t.f4.length ≤ u.t.f4.length := fun s hs => ⟨s, gr_ens _ _ s hs, rfl, Int.le_refl _, Int.le_refl _, Nat.le_refl _⟩
  unfold stepV
  split
  · exact Gr.refl st
  · split
    · exact ⟨gr_put st.L x, (Gr.refl st).tasks⟩
    · split
      · refine ⟨hL, ?_⟩
        dsimp only
        split
        · rename_i hlt
          refine gr_mod fun s hs hk => ?_
          rw [getT_of h.ndT hs hk] at hlt
          exact ⟨rfl, Int.le_of_lt hlt, Int.le_refl _, Nat.le_refl _⟩
        · exact hE
      · split
        · exact ⟨hL, hE⟩
        · split
          · exact ⟨hL, gr_mod fun s _ _ => ⟨rfl, Int.le_refl _, Int.le_refl _, Nat.le_refl _⟩⟩
          · split
            · refine ⟨gr_fold _ st.L, gr_mod fun s _ _ => ⟨rfl, Int.le_refl _, ?_, ?_⟩⟩
              · show s.t.f2 ≤ s.t.f2 + 1; omega
              · show s.t.f4.length ≤ (s.t.f4 ++ x.f8).length
                rw [List.length_append]; omega
            · refine ⟨hL, gr_mod fun s _ _ => ⟨rfl, Int.le_refl _, ?_, Nat.le_refl _⟩⟩
              show s.t.f2 ≤ s.t.f2 + 1; omega
theorem Gr.go (l : List S47) : ∀ {st : St} (i : Int), KInv st → Gr st (goV st i l) := by
  induction l with
  | nil => exact fun i _ => Gr.refl _
  | cons x l ih => exact fun i h => (Gr.step h i x).trans (ih (i + 1) (h.step i x))
theorem Gr.through (l m : List S47) : Gr (throughV l) (throughV (l ++ m)) := by
  have : throughV (l ++ m) = goV (throughV l) (0 + l.length) m := by unfold throughV; rw [goV_append]
  rw [this]
  exact Gr.go m _ (KInv.through l)
/-- With more entries each log that was told is told, longer behind. -/
theorem grows_log {l m : List S47} {a : S36} (h : a ∈ (readV l).f0) : ∃ r, (getLV (readV (l ++ m)).f0 a.f0).f1 = a.f1 ++ r := by
  obtain ⟨b, hb, e, r, q⟩ := (Gr.through l m).logs a (told_logs.1 h)
  refine ⟨r, ?_⟩
  rw [← e, told_log hb, q]
theorem grows_task {l m : List S47} {a : S41} (h : a ∈ (readV l).f1) : a.f1 ≤ (getTV (readV (l ++ m)).f1 a.f0).f1 ∧ a.f2 ≤ (getTV (readV (l ++ m)).f1 a.f0).f2 ∧ a.f4.length ≤ (getTV (readV (l ++ m)).f1 a.f0).f4.length := by
  obtain ⟨s, hs, rfl⟩ := told_tasks.1 h
  obtain ⟨u, hu, e, h1, h2, h3⟩ := (Gr.through l m).tasks s hs
  show (s.t.f1 ≤ (getTV _ s.t.f0).f1) ∧ s.t.f2 ≤ (getTV _ s.t.f0).f2 ∧ s.t.f4.length ≤ (getTV _ s.t.f0).f4.length
  rw [← e, told_task hu]
  exact ⟨h1, h2, h3⟩
end Go.Proofs.Ytmnglonjekegcaa.Vw
