/- Operations that yield values and may come up in any order, each of which only makes memory: what is known of each value stays true as the world grows. -/
import Derived.Test.YtmnglonjekegcaaWMore
import Derived.Test.YtmnglonjekegcaaWLast
import Derived.Orders
import Derived.RegionTactic
namespace Go.Proofs.Ytmnglonjekegcaa.Mono
open Go Go.RowKit Go.Proofs.YtmnglonjekegcaaW.PrintWords Go.Proofs.YtmnglonjekegcaaW.PrintLast
set_option linter.unusedVariables false
set_option linter.unusedSimpArgs false
section
variable {P : Program} {ops : Array Oper} {Q : Exit → Act → World → Prop} {md : Region.Mode} {S : World → Prop}
/-- An operation of the group: its number, its slot, those of the group that it waits for. -/
structure Job where
  op : Nat
  slot : Nat
  deps : List Nat
end
theorem putAll_size : ∀ (l : List (Tmp × Value)) (a : Act), (putAll a l).tmps.size = a.tmps.size := by
  intro l
  induction l with
  | nil => intro a; rfl
  | cons p r ih =>
    intro a
    obtain ⟨n, v⟩ := p
    show (putAll (a.put (some n) v) r).tmps.size = _
    rw [ih]
    simp [Act.put]
theorem putAll_defers : ∀ (l : List (Tmp × Value)) (a : Act), (putAll a l).defers = a.defers := by
  intro l
  induction l with
  | nil => intro a; rfl
  | cons p r ih =>
    intro a
    obtain ⟨n, v⟩ := p
    show (putAll (a.put (some n) v) r).defers = _
    rw [ih]
    rfl
theorem putAll_other : ∀ (l : List (Tmp × Value)) (a : Act) (s : Nat), s ∉ l.map (·.1) → (putAll a l).tmps[s]? = a.tmps[s]? := by
  intro l
  induction l with
  | nil => intro a s _; rfl
  | cons p r ih =>
    intro a s hs
    obtain ⟨n, v⟩ := p
    simp only [List.map_cons, List.mem_cons, not_or] at hs
    show (putAll (a.put (some n) v) r).tmps[s]? = _
    rw [ih _ s hs.2]
    simp only [Act.put]
    rw [Array.getElem?_setIfInBounds_ne (fun h => hs.1 h.symm)]
theorem putAll_at : ∀ (l : List (Tmp × Value)) (a : Act), (l.map (·.1)).Nodup → ∀ p ∈ l, p.1 < a.tmps.size → (putAll a l).tmps[p.1]? = some p.2 := by
  intro l
  induction l with
  | nil => intro a _ p hp; cases hp
  | cons q r ih =>
    intro a hn p hp hlt
    obtain ⟨n, v⟩ := q
    simp only [List.map_cons, List.nodup_cons] at hn
    show (putAll (a.put (some n) v) r).tmps[p.1]? = _
    rcases List.mem_cons.1 hp with rfl | hp
    · rw [putAll_other _ _ _ hn.1]
      simp only [Act.put]
      rw [Array.getElem?_setIfInBounds_self_of_lt hlt]
    · exact ih _ hn.2 p hp (by simpa [Act.put] using hlt)
/-- An act is told by its slots. -/
theorem act_eq {a b : Act} (hd : a.defers = b.defers) (hs : a.tmps.size = b.tmps.size) (h : ∀ s, s < b.tmps.size → a.tmps[s]? = b.tmps[s]?) : a = b := by
  cases a
  cases b
  simp only at hd hs h
  subst hd
  congr 1
  apply Array.ext_getElem?
  intro s
  by_cases hl : s < Array.size ‹_›
  · exact h s (by first | exact hl | omega)
  · rw [Array.getElem?_eq_none (by omega), Array.getElem?_eq_none (by omega)]

section
variable {P : Program} {ops : Array Oper} {Q : Exit → Act → World → Prop} {md : Region.Mode} {S : World → Prop}
/-- What is asked of a group: l: what is listed ahead of it; l2: behind it. -/
def monoB (md : Region.Mode) (ops : Array Oper) (l : Array Bool) (C : List Job) (l2 : Array Bool) : Bool :=
  Region.closedB md ops l
  && C.all (fun c => l.getD c.op true == false && match ops[c.op]? with
      | some o => o.after.all (fun e => !Region.binds md e || l.getD e.on false || c.deps.contains e.on) && c.deps.all (fun j => o.after.any fun e => Region.binds md e && e.on == j)
      | none => false)
  && (List.range ops.size).all (fun d => l.getD d true || (C.map (·.op)).contains d || C.all fun c => Region.reachB md ops c.op ops.size d)
  && decide (C.map (·.op)).Nodup && decide (C.map (·.slot)).Nodup
  && (C.foldl (fun l c => l.setIfInBounds c.op true) l == l2)
def orderB : List Nat → List Job → Bool
  | _, [] => true
  | done, c :: r => c.deps.all (fun j => done.contains j) && orderB (c.op :: done) r
/-- One of the group is next. -/
theorem order_first : ∀ (C : List Job) (done : List Nat), orderB done C = true → ∀ J : List Nat, J ≠ [] → (∀ i ∈ J, i ∈ C.map (·.op)) → (∀ i ∈ done, i ∉ J) → ∃ c ∈ C, c.op ∈ J ∧ ∀ j ∈ c.deps, j ∉ J := by
  intro C
  induction C with
  | nil =>
    intro done _ J hne hJ _
    obtain ⟨i, hi⟩ := List.exists_mem_of_ne_nil J hne
    exact absurd (hJ i hi) (by simp)
  | cons c r ih =>
    intro done h J hne hJ hd
    simp only [orderB, Bool.and_eq_true, List.all_eq_true] at h
    by_cases hc : c.op ∈ J
    · exact ⟨c, List.mem_cons_self .., hc, fun j hj => hd j (by simpa using h.1 j hj)⟩
    · obtain ⟨c', hc', h1, h2⟩ := ih (c.op :: done) h.2 J hne (fun i hi => by
        have := hJ i hi
        simp only [List.map_cons, List.mem_cons] at this
        rcases this with rfl | h'
        · exact absurd hi hc
        · exact h') (fun i hi => by
        rcases List.mem_cons.1 hi with rfl | h'
        · exact hc
        · exact hd i h')
      exact ⟨c', List.mem_cons_of_mem _ hc', h1, h2⟩
theorem foldl_cells : ∀ (C : List Job) (l : Array Bool) (k : Nat), k < l.size → (C.foldl (fun l c => l.setIfInBounds c.op true) l)[k]? = if k ∈ C.map (·.op) then some true else l[k]? := by
  intro C
  induction C with
  | nil => intro l k _; simp
  | cons c r ih =>
    intro l k hk
    show (r.foldl _ (l.setIfInBounds c.op true))[k]? = _
    rw [ih _ k (by simpa using hk)]
    by_cases h1 : k ∈ r.map (·.op)
    · rw [if_pos h1, if_pos (by simp only [List.map_cons, List.mem_cons]; exact .inr h1)]
    · rw [if_neg h1]
      by_cases h2 : k = c.op
      · subst h2
        rw [if_pos (by simp), Array.getElem?_setIfInBounds_self_of_lt hk]
      · rw [if_neg (by simp only [List.map_cons, List.mem_cons, not_or]; exact ⟨h2, h1⟩), Array.getElem?_setIfInBounds_ne (fun h => h2 h.symm)]
theorem foldl_size : ∀ (C : List Job) (l : Array Bool), (C.foldl (fun l c => l.setIfInBounds c.op true) l).size = l.size := by
  intro C
  induction C with
  | nil => intro l; rfl
  | cons c r ih => intro l; show (r.foldl _ (l.setIfInBounds c.op true)).size = _; rw [ih]; simp
theorem map_inj {α β : Type} {f : α → β} : ∀ {l : List α}, (l.map f).Nodup → ∀ {x y : α}, x ∈ l → y ∈ l → f x = f y → x = y := by
  intro l
  induction l with
  | nil => intro _ x _ hx; cases hx
  | cons z r ih =>
    intro hn x y hx hy h
    simp only [List.map_cons, List.nodup_cons] at hn
    rcases List.mem_cons.1 hx with h1 | h1 <;> rcases List.mem_cons.1 hy with h2 | h2
    · rw [h1, h2]
    · exact absurd (List.mem_map.2 ⟨y, h2, by rw [← h, h1]⟩) hn.1
    · exact absurd (List.mem_map.2 ⟨x, h1, by rw [h, h2]⟩) hn.1
    · exact ih hn.2 h1 h2 h
theorem mono_ {l : Array Bool} {a : Act} {w : World} (C : List Job) (l2 : Array Bool) (T : Nat → Value → World → Prop) (G : World → Prop) (rest : Nat)
    (hB : monoB md ops l C l2 = true) (hO : orderB [] C = true) (hsz : ∀ c ∈ C, c.slot < a.tmps.size)
    (hS : ∀ w, G w → S w) (hG : G w) (hT : ∀ s v w w', T s v w → Below w.heap.size w w' → T s v w')
    (hstep : ∀ c ∈ C, ∀ (a' : Act) (w' : World), G w' → (∀ s, s ∉ C.map (·.slot) → a'.tmps[s]? = a.tmps[s]?) → (∀ c' ∈ C, c'.op ∈ c.deps → ∃ v, a'.tmps[c'.slot]? = some v ∧ T c'.slot v w') →
      wpOp P ops Q c.op (fun a2 w2 => ∃ v, a2 = a'.put (some c.slot) v ∧ T c.slot v w2 ∧ G w2 ∧ Below w'.heap.size w' w2) a' w')
    (hend : ∀ (vs : Nat → Value) (w' : World), G w' → (∀ c ∈ C, T c.slot (vs c.slot) w') → wpAnyLast P md ops Q S [] rest l2 (putAll a (C.map fun c => (c.slot, vs c.slot))) w') :
    wpAnyLast P md ops Q S [] (C.length + rest) l a w := by
  simp only [monoB, Bool.and_eq_true, decide_eq_true_eq, beq_iff_eq] at hB
  obtain ⟨⟨⟨⟨⟨h1, h2⟩, h3⟩, h4⟩, h5⟩, h6⟩ := hB
  have hcl := Region.closedB_spec h1
  have hjob : ∀ c ∈ C, l.getD c.op true = false ∧ ∃ o, ops[c.op]? = some o ∧ (∀ e ∈ o.after, Region.binds md e = true → l.getD e.on false = true ∨ e.on ∈ c.deps) ∧ ∀ j ∈ c.deps, ∃ e ∈ o.after, Region.binds md e = true ∧ e.on = j := by
    intro c hc
    have := List.all_eq_true.1 h2 c hc
    rw [Bool.and_eq_true] at this
    obtain ⟨g1, g2⟩ := this
    refine ⟨by simpa using g1, ?_⟩
    cases ho : ops[c.op]? with
    | none => rw [ho] at g2; simp at g2
    | some o =>
      rw [ho] at g2
      simp only [Bool.and_eq_true] at g2
      refine ⟨o, rfl, fun e he hb => ?_, fun j hj => ?_⟩
      · have := Array.all_eq_true_iff_forall_mem.1 g2.1 e he
        simp only [hb, Bool.not_true, Bool.false_or, Bool.or_eq_true] at this
        rcases this with h | h
        · exact .inl h
        · exact .inr (by simpa using h)
      · have := List.all_eq_true.1 g2.2 j hj
        obtain ⟨e, he, hh⟩ := Array.any_eq_true'.1 this
        simp only [Bool.and_eq_true, beq_iff_eq] at hh
        exact ⟨e, he, hh.1, hh.2⟩
  have key : ∀ (m : Nat) (J : List Nat) (listed : Array Bool) (a' : Act) (w' : World), J.length = m → (∀ i ∈ J, i ∈ C.map (·.op)) → J.Nodup → ListedClosed md ops listed → listed.size = l.size →
      (∀ k, k < l.size → listed[k]? = if k ∈ C.map (·.op) ∧ k ∉ J then some true else l[k]?) → G w' → a'.defers = a.defers → a'.tmps.size = a.tmps.size → (∀ s, s ∉ C.map (·.slot) → a'.tmps[s]? = a.tmps[s]?) →
      (∀ c ∈ C, c.op ∉ J → ∃ v, a'.tmps[c.slot]? = some v ∧ T c.slot v w') → wpAnyLast P md ops Q S [] (m + rest) listed a' w' := by
    intro m
    induction m with
    | zero =>
      intro J listed a' w' hl hJ hn hc hs hcells hg hd hsize hbase hv
      obtain rfl : J = [] := List.length_eq_zero_iff.1 hl
      have e1 : listed = l2 := by
        rw [← h6]
        apply Array.ext_getElem?
        intro k
        by_cases hk : k < l.size
        · rw [hcells k hk, foldl_cells C l k hk]
          simp
        · rw [Array.getElem?_eq_none (by omega), Array.getElem?_eq_none (by rw [foldl_size]; omega)]
      have e2 : a' = putAll a (C.map fun c => (c.slot, a'.tmps.getD c.slot undef)) := by
        refine act_eq (by rw [putAll_defers, hd]) (by rw [putAll_size, hsize]) (fun s hs' => ?_)
        rw [putAll_size] at hs'
        by_cases hin : s ∈ C.map (·.slot)
        · obtain ⟨c, hc', rfl⟩ := List.mem_map.1 hin
          have := putAll_at (C.map fun c => (c.slot, a'.tmps.getD c.slot undef)) a (by rw [List.map_map]; exact h5) (c.slot, a'.tmps.getD c.slot undef) (List.mem_map.2 ⟨c, hc', rfl⟩) hs'
          rw [this]
          simp only
          have hl3 : c.slot < a'.tmps.size := by rw [hsize]; exact hs'
          simp [hl3]
        · rw [hbase s hin, putAll_other]
          rw [List.map_map]
          exact hin
      subst e1
      rw [Nat.zero_add, e2]
      refine hend (fun s => a'.tmps.getD s undef) w' hg (fun c hc' => ?_)
      obtain ⟨v, e3, e4⟩ := hv c hc' (by simp)
      have : a'.tmps.getD c.slot undef = v := by simp [e3]
      show T c.slot (a'.tmps.getD c.slot undef) w'
      rw [this]
      exact e4
    | succ m ih =>
      intro J listed a' w' hl hJ hn hc hs hcells hg hd hsize hbase hv
      have hne : J ≠ [] := fun h => by rw [h] at hl; cases hl
      have hun : ∀ i ∈ J, listed.getD i true = false := by
        intro i hi
        obtain ⟨c, hc', rfl⟩ := List.mem_map.1 (hJ i hi)
        have h0 := (hjob c hc').1
        have hlt : c.op < l.size := by
          rcases Nat.lt_or_ge c.op l.size with h | h
          · exact h
          · simp [Array.getElem?_eq_none h] at h0
        have := hcells c.op hlt
        rw [if_neg (fun h => h.2 hi)] at this
        simp only [Array.getD_eq_getD_getElem?] at h0 ⊢
        rw [this]
        exact h0
      have honly : ∀ d ∈ Region.ready md ops listed, d ∈ J := by
        intro d hd'
        obtain ⟨hu, o, ho, hall⟩ := mem_ready.1 hd'
        have hdl : d < ops.size := (Array.getElem?_eq_some_iff.1 ho).1
        have := List.all_eq_true.1 h3 d (List.mem_range.2 hdl)
        by_cases hlt : d < l.size
        · by_cases hin : d ∈ C.map (·.op)
          · refine Classical.byContradiction fun hnj => ?_
            have h7 := hcells d hlt
            rw [if_pos ⟨hin, hnj⟩] at h7
            simp [h7] at hu
          · have h7 := hcells d hlt
            rw [if_neg (fun h => hin h.1)] at h7
            have h8 : l.getD d true = false := by
              simp only [Array.getD_eq_getD_getElem?] at hu ⊢
              rw [← h7]
              exact hu
            rw [h8] at this
            simp only [Bool.false_or, Bool.or_eq_true] at this
            rcases this with h | h
            · exact absurd (by simpa using h) hin
            · obtain ⟨i, hi⟩ := List.exists_mem_of_ne_nil J hne
              obtain ⟨c, hc', rfl⟩ := List.mem_map.1 (hJ i hi)
              exact absurd hd' (Region.reach_not_ready hc (List.all_eq_true.1 h c hc') (hun _ hi))
        · simp [Array.getElem?_eq_none (show listed.size ≤ d by omega)] at hu
      have hfalse : ∀ j ∈ J, listed.getD j false = false := by
        intro j hj
        have := hun j hj
        simp only [Array.getD_eq_getD_getElem?] at this ⊢
        cases h : listed[j]? with
        | none => rfl
        | some b => rw [h] at this; simpa using this
      rw [Nat.succ_add]
      refine ⟨fun h0 => ?_, fun i hi => ?_⟩
      · exfalso
        obtain ⟨c, hc', hcJ, hdep⟩ := order_first C [] hO J hne hJ (fun i hi => by cases hi)
        obtain ⟨o, ho, ha, hdd⟩ := (hjob c hc').2
        have : c.op ∈ Region.ready md ops listed := by
          refine mem_ready.2 ⟨hun _ hcJ, o, ho, fun e he hb => ?_⟩
          rcases ha e he hb with h | h
          · have hlt : e.on < l.size := by
              rcases Nat.lt_or_ge e.on l.size with h' | h'
              · exact h'
              · simp [Array.getElem?_eq_none h'] at h
            have h9 := hcells e.on hlt
            simp only [Array.getD_eq_getD_getElem?] at h ⊢
            rw [h9]
            split
            · rfl
            · exact h
          · have hnj := hdep _ h
            obtain ⟨c', hc'', h10⟩ : ∃ c' ∈ C, c'.op = e.on ∨ True := ⟨c, hc', .inr trivial⟩
            by_cases hin : e.on ∈ C.map (·.op)
            · obtain ⟨c2, hc2, h11⟩ := List.mem_map.1 hin
              have h0' := (hjob c2 hc2).1
              have hlt : e.on < l.size := by
                rw [← h11]
                rcases Nat.lt_or_ge c2.op l.size with h' | h'
                · exact h'
                · simp [Array.getElem?_eq_none h'] at h0'
              have h9 := hcells e.on hlt
              rw [if_pos ⟨hin, hnj⟩] at h9
              simp [h9]
            · exfalso
              -- deps lie in the group
              have : ∀ (C : List Job) (done : List Nat), orderB done C = true → ∀ c ∈ C, ∀ j ∈ c.deps, j ∈ C.map (·.op) ∨ j ∈ done := by
                intro C
                induction C with
                | nil => intro _ _ c hc; cases hc
                | cons c r ihr =>
                  intro done hh c2 hc2 j hj
                  simp only [orderB, Bool.and_eq_true, List.all_eq_true] at hh
                  rcases List.mem_cons.1 hc2 with rfl | hc2
                  · exact .inr (by simpa using hh.1 j hj)
                  · rcases ihr _ hh.2 c2 hc2 j hj with h | h
                    · exact .inl (by simp only [List.map_cons, List.mem_cons]; exact .inr h)
                    · rcases List.mem_cons.1 h with rfl | h
                      · exact .inl (by simp)
                      · exact .inr h
              rcases this C [] hO c hc' _ h with h' | h'
              · exact hin h'
              · cases h'
        rw [h0] at this
        cases this
      · have hiJ := honly i hi
        obtain ⟨c, hc', rfl⟩ := List.mem_map.1 (hJ i hiJ)
        obtain ⟨o, ho, ha, hdd⟩ := (hjob c hc').2
        obtain ⟨_, o', ho', hall⟩ := mem_ready.1 hi
        obtain rfl : o = o' := Option.some.inj (ho.symm.trans ho')
        have hm : ∀ i, i ∈ J.erase c.op ↔ i ≠ c.op ∧ i ∈ J := fun i => hn.mem_erase_iff
        refine wpOp_mono (fun a2 w2 h => ?_) (hstep c hc' a' w' hg hbase (fun c' hc'' hd' => ?_))
        · obtain ⟨v, rfl, hTv, hg2, hb2⟩ := h
          refine ⟨fun _ _ => hS _ hg2, ih (J.erase c.op) _ _ _ (by rw [List.length_erase_of_mem hiJ, hl]; rfl) (fun i hi => hJ i ((hm i).1 hi).2) (hn.erase _) (hc.set hi) (by simpa using hs) (fun k hk => ?_) hg2 (by simpa [Act.put] using hd) (by simpa [Act.put] using hsize) (fun s hs' => ?_) (fun c2 hc2 hnj => ?_)⟩
          · by_cases e : c.op = k
            · subst e
              rw [Array.getElem?_setIfInBounds_self_of_lt (by omega), if_pos ⟨hJ _ hiJ, fun hx => ((hm _).1 hx).1 rfl⟩]
            · rw [Array.getElem?_setIfInBounds_ne e, hcells k hk]
              by_cases h7 : k ∈ C.map (·.op) ∧ k ∉ J
              · rw [if_pos h7, if_pos ⟨h7.1, fun hx => h7.2 ((hm k).1 hx).2⟩]
              · rw [if_neg h7, if_neg (fun hx => h7 ⟨hx.1, fun hk2 => hx.2 ((hm k).2 ⟨fun h => e h.symm, hk2⟩)⟩)]
          · simp only [Act.put]
            rw [Array.getElem?_setIfInBounds_ne (fun h => hs' (by rw [← h]; exact List.mem_map.2 ⟨c, hc', rfl⟩)), hbase s hs']
          · by_cases e : c2.op = c.op
            · have e2 : c2 = c := map_inj h4 hc2 hc' e
              subst e2
              exact ⟨v, by simp only [Act.put]; rw [Array.getElem?_setIfInBounds_self_of_lt (by rw [hsize]; exact hsz _ hc2)], hTv⟩
            · obtain ⟨v2, h7, h8⟩ := hv c2 hc2 (fun hx => hnj ((hm _).2 ⟨e, hx⟩))
              have e3 : c.slot ≠ c2.slot := fun h => e (by rw [map_inj h5 hc' hc2 h])
              exact ⟨v2, by simp only [Act.put]; rw [Array.getElem?_setIfInBounds_ne e3]; exact h7, hT _ _ _ _ h8 hb2⟩
        · obtain ⟨e, he, hb, he2⟩ := hdd _ hd'
          refine hv c' hc'' (fun hx => ?_)
          have h7 := hall e he hb
          rw [he2] at h7
          rw [hfalse _ hx] at h7
          cases h7
  have := key C.length (C.map (·.op)) l a w (by simp) (fun i hi => hi) h4 hcl rfl (fun k hk => by rw [if_neg (fun h => h.2 h.1)]) hG rfl rfl (fun _ _ => rfl) (fun c hc hn => absurd (List.mem_map.2 ⟨c, hc, rfl⟩) hn)
  exact this
/-- A call of a Go function that only makes memory, as a step of such a group. -/
theorem callM_ {a : Act} {w w0 : World} {T : Value → World → Prop} {i s : Nat} {oi : Oper} {f : FuncId} {fn : Func} {as : Array Operand} {ts : Array TypeId} (hi : ops[i]? = some oi) (hN : oi.dst = some s) (hg : oi.guard = none)
    (hf : P.funcs[f]? = some fn) (hname : (fn.name == "runtime.NumGoroutine") = false) (hb : fn.body.isSome = true) (args : Array Value)
    (hop : oi.op = .call { callee := .value (.func f), args := as, argTypes := ts }) (hargs : as.map a.eval = args) (hG : Below w0.heap.size w0 w)
    (h : Calls P f args w fun e w' => ∃ v, e = .returned v ∧ T v w' ∧ Below w.heap.size w w') :
    wpOp P ops Q i (fun a2 w2 => ∃ v, a2 = a.put (some s) v ∧ T v w2 ∧ Below w0.heap.size w0 w2 ∧ Below w.heap.size w w2) a w := by
  refine wpOp_step hi (fun K hK => ?_)
  have hw : Region.wanted oi (yielded ops a.tmps) = true := by unfold Region.wanted; rw [hg]
  rw [hN]
  refine goes_ (N := some s) hf hname hb args hw hN hop hargs ?_
  refine h.mono fun e w2 hh => ?_
  obtain ⟨v, rfl, hT, hB⟩ := hh
  exact ⟨v, rfl, hK _ _ ⟨v, rfl, hT, below_step hG hB, hB⟩⟩
/-- An operation that yields a value and makes memory, as a step of such a group. -/
theorem valueM_ {a : Act} {w w0 w1 : World} {T : Value → World → Prop} {i s : Nat} {oi : Oper} {v : Value} (hi : ops[i]? = some oi) (hN : oi.dst = some s) (hg : oi.guard = none)
    (hrun : (execOp a.eval oi).run P w = .ok (.value v) w1) (hG : Below w0.heap.size w0 w) (hT : T v w1) (hB : Below w.heap.size w w1) :
    wpOp P ops Q i (fun a2 w2 => ∃ v, a2 = a.put (some s) v ∧ T v w2 ∧ Below w0.heap.size w0 w2 ∧ Below w.heap.size w w2) a w := by
  refine wpOp_step hi (fun K hK => ?_)
  have hw : Region.wanted oi (yielded ops a.tmps) = true := by unfold Region.wanted; rw [hg]
  rw [hN]
  exact value_ (N := some s) hw hN hrun (hK _ _ ⟨v, rfl, hT, below_step hG hB, hB⟩)
/-- A new variable. -/
def AL (B : Nat) (t : TypeId) (cs : Array Value) (w : World) (v : Value) : Prop := ∃ g, v = .pointer (some ⟨g, 0, none⟩) ∧ w.heap[g]? = some (.cells cs t (0, 0)) ∧ B ≤ g
theorem AL.below {B : Nat} {t : TypeId} {cs : Array Value} {w w2 : World} {v : Value} (h : AL B t cs w v) (hb : Below w.heap.size w w2) : AL B t cs w2 v := by
  obtain ⟨g, h1, h2, h3⟩ := h
  exact ⟨g, h1, blk_below h2 hb, h3⟩
theorem AL.new (t : TypeId) (cs : Array Value) (w w0 : World) (h : Below w0.heap.size w0 w) : AL w0.heap.size t cs (w.alloc (.cells cs t)) (.pointer (some ⟨w.heap.size, 0, none⟩)) := ⟨_, rfl, blk_new _ _, h.size⟩
theorem eval_tmp {a : Act} {s : Nat} {v : Value} (h : a.tmps[s]? = some v) : a.eval (.tmp s) = v := by
  show a.tmps.getD s undef = v
  simp [h]
theorem eval_const {a : Act} {v : Value} : a.eval (.const v) = v := rfl
end
end Go.Proofs.Ytmnglonjekegcaa.Mono
