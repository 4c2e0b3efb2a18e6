/- (c14) Plain laws of sessions: what puts alone make, in whichever order; no program in sight. -/
import Derived.Test.YtpjfmilokadchaaSePure
namespace Go.Proofs.Ytpjfmilokadchaa.Se
open Go
set_option linter.unusedVariables false
set_option linter.unusedSimpArgs false
/-- What is made of puts alone: P, keys and times. -/
structure Inv (g : Int) (P : List (Int × Int)) (L : List Ses) : Prop where
  good : Good g L
  mem : ∀ p ∈ P, ∃ x ∈ L, x.k = p.1 ∧ x.a ≤ p.2 ∧ p.2 ≤ x.b
  ends : ∀ x ∈ L, (x.k, x.a) ∈ P ∧ (x.k, x.b) ∈ P
  dense : ∀ x ∈ L, ∀ t, x.a ≤ t → t < x.b → ∃ t', (x.k, t') ∈ P ∧ t < t' ∧ t' ≤ t + g ∧ t' ≤ x.b
theorem Inv.nil (g : Int) : Inv g [] [] := ⟨Good.nil g, fun p hp => (List.not_mem_nil hp).elim, fun x hx => (List.not_mem_nil hx).elim, fun x hx => (List.not_mem_nil hx).elim⟩
theorem Inv.put {g : Int} {P : List (Int × Int)} {L : List Ses} (hg : 1 ≤ g) (h : Inv g P L) {key t v : Int} (ht : 0 ≤ t ∧ t ≤ 1099511627776) : Inv g ((key, t) :: P) (putS g L key t v) := by
  have hT : ∀ z ∈ findL g L key t, z ∈ L ∧ (z.k = key ∧ z.a - g ≤ t ∧ t ≤ z.b + g) := fun z hz => ⟨(List.mem_filter.1 hz).1, touch_iff.1 (List.mem_filter.1 hz).2⟩
  have hst : ∀ y ∈ stayL g L key t, y ∈ L := fun y hy => (List.mem_filter.1 hy).1
  have hsp : ∀ y ∈ L, y ∈ findL g L key t ∨ y ∈ stayL g L key t := fun y hy => by
    cases hb : touchB g key t y with
    | true => exact .inl (List.mem_filter.2 ⟨hy, hb⟩)
    | false => exact .inr (List.mem_filter.2 ⟨hy, by rw [hb]; rfl⟩)
  obtain ⟨f1, f2, f3⟩ := first_le (findL g L key t) t
  obtain ⟨l1, l2, l3⟩ := last_ge (findL g L key t) t
  refine ⟨h.good.put hg ht, fun p hp => ?_, fun x hx => ?_, fun x hx => ?_⟩
  · rcases List.mem_cons.1 hp with rfl | hp
    · exact ⟨putX g L key t v, mem_insS.2 (.inl rfl), rfl, f1, l1⟩
    · obtain ⟨y, hy, h1, h2, h3⟩ := h.mem p hp
      rcases hsp y hy with hy' | hy'
      · refine ⟨putX g L key t v, mem_insS.2 (.inl rfl), (hT y hy').2.1.symm.trans h1, ?_, ?_⟩
        · exact Int.le_trans (f2 y hy') h2
        · exact Int.le_trans h3 (l2 y hy')
      · exact ⟨y, mem_insS.2 (.inr hy'), h1, h2, h3⟩
  · rcases mem_insS.1 hx with rfl | hx
    · constructor
      · show (key, firstL t (findL g L key t)) ∈ _
        rcases f3 with f3 | ⟨z, hz, f3⟩
        · rw [f3]; exact List.mem_cons_self
        · rw [f3, ← (hT z hz).2.1]; exact List.mem_cons_of_mem _ (h.ends z (hT z hz).1).1
      · show (key, lastL t (findL g L key t)) ∈ _
        rcases l3 with l3 | ⟨z, hz, l3⟩
        · rw [l3]; exact List.mem_cons_self
        · rw [l3, ← (hT z hz).2.1]; exact List.mem_cons_of_mem _ (h.ends z (hT z hz).1).2
    · exact ⟨List.mem_cons_of_mem _ (h.ends x (hst x hx)).1, List.mem_cons_of_mem _ (h.ends x (hst x hx)).2⟩
  · rcases mem_insS.1 hx with rfl | hx
    · intro t0 h1 h2
      have h1' : firstL t (findL g L key t) ≤ t0 := h1
      have h2' : t0 < lastL t (findL g L key t) := h2
      show ∃ t', (key, t') ∈ _ ∧ t0 < t' ∧ t' ≤ t0 + g ∧ t' ≤ lastL t (findL g L key t)
      by_cases hlt : t0 < t
      · by_cases hn : t ≤ t0 + g
        · exact ⟨t, List.mem_cons_self, hlt, hn, l1⟩
        · rcases f3 with f3 | ⟨z, hz, f3⟩
          · exfalso; clear l3; omega
          · obtain ⟨hzL, z1, z2, z3⟩ := hT z hz
            obtain ⟨t', d1, d2, d3, d4⟩ := h.dense z hzL t0 (by clear l3; omega) (by clear l3; omega)
            exact ⟨t', List.mem_cons_of_mem _ (by rw [← z1]; exact d1), d2, d3, Int.le_trans d4 (l2 z hz)⟩
      · rcases l3 with l3 | ⟨z, hz, l3⟩
        · exfalso; clear f3; omega
        · obtain ⟨hzL, z1, z2, z3⟩ := hT z hz
          by_cases hza : z.a ≤ t0
          · obtain ⟨t', d1, d2, d3, d4⟩ := h.dense z hzL t0 hza (by clear f3; omega)
            exact ⟨t', List.mem_cons_of_mem _ (by rw [← z1]; exact d1), d2, d3, Int.le_trans d4 (l2 z hz)⟩
          · have := h.good.span z hzL
            exact ⟨z.a, List.mem_cons_of_mem _ (by rw [← z1]; exact (h.ends z hzL).1), by clear f3; omega, by clear f3; omega, by clear f3; omega⟩
    · intro t0 h1 h2
      obtain ⟨t', d1, d2, d3, d4⟩ := h.dense x (hst x hx) t0 h1 h2
      exact ⟨t', List.mem_cons_of_mem _ d1, d2, d3, d4⟩
/-- No time that was put lies just behind a session. -/
theorem Inv.gap {g : Int} {P : List (Int × Int)} {L : List Ses} (h : Inv g P L) {x : Ses} (hx : x ∈ L) {t : Int} (hp : (x.k, t) ∈ P) (h1 : x.b < t) (h2 : t ≤ x.b + g) : False := by
  obtain ⟨y, hy, e, y1, y2⟩ := h.mem _ hp
  have e' : y.k = x.k := e
  simp only at y1 y2
  have sx := h.good.span x hx
  rcases two_apart h.good.apart hx hy e'.symm with r | r | r
  · subst r; omega
  · omega
  · omega
theorem Inv.one {g : Int} {P Q : List (Int × Int)} {L M : List Ses} (hg : 1 ≤ g) (h : Inv g P L) (k : Inv g Q M) (hpq : ∀ p, p ∈ P ↔ p ∈ Q) {x : Ses} (hx : x ∈ L) : ∃ y ∈ M, y.k = x.k ∧ y.a = x.a ∧ y.b = x.b := by
  have sx := h.good.span x hx
  obtain ⟨y, hy, e, y1, y2⟩ := k.mem _ ((hpq _).1 (h.ends x hx).1)
  simp only at e y1 y2
  refine ⟨y, hy, e, ?_, ?_⟩
  · by_cases hlt : y.a < x.a
    · exfalso
      obtain ⟨x', hx', e', x1, x2⟩ := h.mem _ ((hpq _).2 (k.ends y hy).1)
      simp only at e' x1 x2
      have sx' := h.good.span x' hx'
      rcases two_apart h.good.apart hx hx' (e.symm.trans e'.symm) with r | r | r
      · subst r; omega
      · omega
      · obtain ⟨t', d1, d2, d3, d4⟩ := k.dense y hy x'.b x2 (by omega)
        exact h.gap hx' (t := t') (by rw [e']; exact (hpq _).2 d1) d2 d3
    · omega
  · by_cases h1 : y.b < x.b
    · exfalso
      obtain ⟨t', d1, d2, d3, d4⟩ := h.dense x hx y.b (by omega) h1
      exact k.gap hy (t := t') (by rw [e]; exact (hpq _).1 d1) d2 d3
    · by_cases h2 : x.b < y.b
      · exfalso
        obtain ⟨t', d1, d2, d3, d4⟩ := k.dense y hy x.b (by omega) h2
        exact h.gap hx (t := t') (by rw [← e]; exact (hpq _).2 d1) d2 d3
      · omega
theorem rise_ext {L M : List Ses} (hL : Rise L) (hM : Rise M) (h : ∀ x, x ∈ L ↔ x ∈ M) : L = M := by
  induction L generalizing M with
  | nil =>
    cases M with
    | nil => rfl
    | cons y M => exact absurd ((h y).2 List.mem_cons_self) List.not_mem_nil
  | cons x L ih =>
    cases M with
    | nil => exact absurd ((h x).1 List.mem_cons_self) List.not_mem_nil
    | cons y M =>
      have hL' := List.pairwise_cons.1 hL
      have hM' := List.pairwise_cons.1 hM
      have hxy : x = y := by
        rcases List.mem_cons.1 ((h x).1 List.mem_cons_self) with e | e
        · exact e
        · rcases List.mem_cons.1 ((h y).2 List.mem_cons_self) with e2 | e2
          · exact e2.symm
          · have := ltB_trans (hM'.1 x e) (hL'.1 y e2)
            rw [ltB_irr] at this
            cases this
      subst hxy
      rw [ih hL'.2 hM'.2 (fun z => ?_)]
      constructor
      · intro hz
        rcases List.mem_cons.1 ((h z).1 (List.mem_cons_of_mem _ hz)) with e | e
        · subst e
          have := hL'.1 z hz
          rw [ltB_irr] at this
          cases this
        · exact e
      · intro hz
        rcases List.mem_cons.1 ((h z).2 (List.mem_cons_of_mem _ hz)) with e | e
        · subst e
          have := hM'.1 z hz
          rw [ltB_irr] at this
          cases this
        · exact e
/-- The same times, in whichever order, make the same sessions. -/
theorem Inv.same {g : Int} {P Q : List (Int × Int)} {L M : List Ses} (hg : 1 ≤ g) (h : Inv g P L) (k : Inv g Q M) (hpq : ∀ p, p ∈ P ↔ p ∈ Q) (hl : ∀ x ∈ L, x.v = 1) (hm : ∀ x ∈ M, x.v = 1) : L = M := by
  refine rise_ext h.good.rise k.good.rise (fun x => ⟨fun hx => ?_, fun hx => ?_⟩)
  · obtain ⟨y, hy, e1, e2, e3⟩ := h.one hg k hpq hx
    have e4 : y.v = x.v := (hm y hy).trans (hl x hx).symm
    have : y = x := by cases x; cases y; simp only at e1 e2 e3 e4; subst e1 e2 e3 e4; rfl
    rw [← this]; exact hy
  · obtain ⟨y, hy, e1, e2, e3⟩ := k.one hg h (fun p => (hpq p).symm) hx
    have e4 : y.v = x.v := (hl y hy).trans (hm x hx).symm
    have : y = x := by cases x; cases y; simp only at e1 e2 e3 e4; subst e1 e2 e3 e4; rfl
    rw [← this]; exact hy
theorem put_val {g : Int} {L : List Ses} {key t v : Int} (h : ∀ x ∈ L, x.v = v) : ∀ x ∈ putS g L key t v, x.v = v := fun x hx => by
  rcases mem_insS.1 hx with rfl | hx
  · rfl
  · exact h x (List.mem_filter.1 hx).1
/-- Each time that was put lies in just one session. -/
theorem Inv.count {g : Int} {P : List (Int × Int)} {L : List Ses} (hg : 1 ≤ g) (h : Inv g P L) {p : Int × Int} (hp : p ∈ P) : (L.filter fun x => (x.k == p.1) && (decide (x.a ≤ p.2) && decide (p.2 ≤ x.b))).length = 1 := by
  obtain ⟨x, hx, h1, h2, h3⟩ := h.mem p hp
  have key : ∀ M : List Ses, Apart g M → (∀ y ∈ M, 0 ≤ y.a ∧ y.a ≤ y.b) → x ∈ M → (M.filter fun x => (x.k == p.1) && (decide (x.a ≤ p.2) && decide (p.2 ≤ x.b))).length = 1 := by
    intro M
    induction M with
    | nil => intro _ _ hx; exact (List.not_mem_nil hx).elim
    | cons z M ih =>
      intro ha hs hx
      have ha' := List.pairwise_cons.1 ha
      have none_ : ∀ u ∈ z :: M, (u.k = p.1 ∧ u.a ≤ p.2 ∧ p.2 ≤ u.b) → u = x := fun u hu hh => by
        rcases two_apart ha hu hx (hh.1.trans h1.symm) with r | r | r
        · exact r
        · omega
        · omega
      by_cases hz : z.k = p.1 ∧ z.a ≤ p.2 ∧ p.2 ≤ z.b
      · have hzx := none_ z List.mem_cons_self hz
        have : M.filter (fun x => (x.k == p.1) && (decide (x.a ≤ p.2) && decide (p.2 ≤ x.b))) = [] := by
          refine List.filter_eq_nil_iff.2 (fun u hu hh => ?_)
          simp only [Bool.and_eq_true, beq_iff_eq, decide_eq_true_eq] at hh
          have e := none_ u (List.mem_cons_of_mem _ hu) hh
          have := ha'.1 u hu (hz.1.trans hh.1.symm)
          rw [e, ← hzx] at this
          have := hs z List.mem_cons_self
          omega
        rw [List.filter_cons_of_pos (by simp only [Bool.and_eq_true, beq_iff_eq, decide_eq_true_eq]; exact hz), this]
        rfl
      · rw [List.filter_cons_of_neg (by simp only [Bool.and_eq_true, beq_iff_eq, decide_eq_true_eq]; exact hz)]
        refine ih ha'.2 (fun y hy => hs y (List.mem_cons_of_mem _ hy)) ?_
        rcases List.mem_cons.1 hx with e | e
        · subst e; exact absurd ⟨h1, h2, h3⟩ hz
        · exact e
  exact key L h.good.apart (fun y hy => by have := h.good.span y hy; omega) hx
end Go.Proofs.Ytpjfmilokadchaa.Se
