/- Operations that may come up in whatever order, each of which keeps an invariant and turns no slot. -/
import Derived.Test.YtmnglonjekegcaaWWords
import Derived.Orders
namespace Go.Proofs.Ytmnglonjekegcaa.Shuf
open Go Go.RowKit Go.Proofs.YtmnglonjekegcaaW.PrintWords Go.Proofs.YtmnglonjekegcaaW.PrintLast
set_option linter.unusedVariables false
set_option linter.unusedSimpArgs false
section
variable {P : Program} {ops : Array Oper} {Q : Exit → Act → World → Prop} {md : Region.Mode} {S : World → Prop} {ds : List Nat}
/-- J: those of I that are still to come; base: what was listed ahead of them. -/
structure Mid (md : Region.Mode) (ops : Array Oper) (base : Array Bool) (I J : List Nat) (n : Nat) (listed : Array Bool) : Prop where
  closed : ListedClosed md ops listed
  ready : ∀ i ∈ J, i ∈ Region.ready md ops listed
  waits : ∀ d o, ops[d]? = some o → listed.getD d true = false → d ∈ J ∨ ∀ i ∈ J, Region.reachB md ops i n d = true
  nodup : J.Nodup
  size : listed.size = base.size
  cells : ∀ k, k < base.size → listed[k]? = if k ∈ I ∧ k ∉ J then some true else base[k]?
theorem Mid.only {base listed : Array Bool} {I J : List Nat} {n : Nat} (h : Mid md ops base I J n listed) (hne : J ≠ []) {d : Nat} (hd : d ∈ Region.ready md ops listed) : d ∈ J := by
  obtain ⟨hu, o, ho, _⟩ := mem_ready.1 hd
  rcases h.waits d o ho hu with h1 | h1
  · exact h1
  · obtain ⟨i, hi⟩ := List.exists_mem_of_ne_nil J hne
    exact absurd hd (Region.reach_not_ready h.closed (h1 i hi) (mem_ready.1 (h.ready i hi)).1)
theorem Mid.step {base listed : Array Bool} {I J : List Nat} {n j : Nat} (h : Mid md ops base I J n listed) (hj : j ∈ J) (hI : j ∈ I) : Mid md ops base I (J.erase j) n (listed.setIfInBounds j true) := by
  have hm : ∀ i, i ∈ J.erase j ↔ i ≠ j ∧ i ∈ J := fun i => h.nodup.mem_erase_iff
  refine ⟨h.closed.set (h.ready j hj), fun i hi => ready_mono (h.ready i ((hm i).1 hi).2) ((hm i).1 hi).1, fun d o ho hu => ?_, h.nodup.erase _, by simpa using h.size, fun k hk => ?_⟩
  · by_cases e : j = d
    · subst e
      have hlt : j < listed.size := by
        rcases Nat.lt_or_ge j listed.size with h' | h'
        · exact h'
        · simp [Array.getElem?_eq_none (by simpa using h')] at hu
      simp [hlt] at hu
    · rw [getD_set_ne true e] at hu
      rcases h.waits d o ho hu with h1 | h1
      · exact .inl ((hm d).2 ⟨fun h => e h.symm, h1⟩)
      · exact .inr (fun i hi => h1 i ((hm i).1 hi).2)
  · by_cases e : j = k
    · subst e
      rw [Array.getElem?_setIfInBounds_self_of_lt (by rw [h.size]; exact hk), if_pos ⟨hI, fun hx => ((hm j).1 hx).1 rfl⟩]
    · rw [Array.getElem?_setIfInBounds_ne e, h.cells k hk]
      by_cases h1 : k ∈ I ∧ k ∉ J
      · rw [if_pos h1, if_pos ⟨h1.1, fun hx => h1.2 ((hm k).1 hx).2⟩]
      · rw [if_neg h1, if_neg (fun hx => h1 ⟨hx.1, fun hk2 => hx.2 ((hm k).2 ⟨fun h => e h.symm, hk2⟩)⟩)]
def midB (md : Region.Mode) (ops : Array Oper) (l : Array Bool) (I : List Nat) (n : Nat) : Bool :=
  Region.closedB md ops l && I.all (fun i => (Region.ready md ops l).contains i) && (List.range ops.size).all (fun d => l.getD d true || I.contains d || I.all fun i => Region.reachB md ops i n d)
theorem Mid.start {l : Array Bool} {I : List Nat} {n : Nat} (hn : I.Nodup) (h : midB md ops l I n = true) : Mid md ops l I I n l := by
  simp only [midB, Bool.and_eq_true] at h
  obtain ⟨⟨h1, h2⟩, h3⟩ := h
  refine ⟨Region.closedB_spec h1, fun i hi => ?_, fun d o ho hu => ?_, hn, rfl, fun k _ => ?_⟩
  · have := List.all_eq_true.1 h2 i hi
    simpa using this
  · have hd : d < ops.size := (Array.getElem?_eq_some_iff.1 ho).1
    have := List.all_eq_true.1 h3 d (List.mem_range.2 hd)
    rw [hu] at this
    simp only [Bool.false_or, Bool.or_eq_true] at this
    rcases this with h | h
    · exact .inl (by simpa using h)
    · exact .inr (fun i hi => List.all_eq_true.1 h i hi)
  · rw [if_neg (fun h => h.2 h.1)]
/-- In whatever order they come: behind the last of them stands the array 'target'. -/
theorem shuffle {base : Array Bool} {I : List Nat} {n : Nat} (target : Array Bool) (Inv : List Nat → World → Prop) (a : Act)
    (ht : target.size = base.size) (htc : ∀ k, k < base.size → target[k]? = if k ∈ I then some true else base[k]?)
    (hS : ∀ J w, Inv J w → S w)
    (hstep : ∀ J j w, j ∈ J → (∀ i ∈ J, i ∈ I) → J.Nodup → Inv J w → wpOp P ops Q j (fun a' w' => a' = a ∧ Inv (J.erase j) w') a w)
    (rest : Nat) (hend : ∀ w, Inv [] w → wpAnyLast P md ops Q S ds rest target a w) :
    ∀ (m : Nat) (J : List Nat) (listed : Array Bool) (w : World), J.length = m → (∀ i ∈ J, i ∈ I) → Mid md ops base I J n listed → Inv J w → wpAnyLast P md ops Q S ds (m + rest) listed a w := by
  intro m
  induction m with
  | zero =>
    intro J listed w hl hJ hM hI
    obtain rfl : J = [] := List.length_eq_zero_iff.1 hl
    have : listed = target := by
      apply Array.ext_getElem?
      intro k
      by_cases hk : k < base.size
      · rw [hM.cells k hk, htc k hk]
        simp
      · rw [Array.getElem?_eq_none (by rw [hM.size]; omega), Array.getElem?_eq_none (by rw [ht]; omega)]
    subst this
    rw [Nat.zero_add]
    exact hend w hI
  | succ m ih =>
    intro J listed w hl hJ hM hI
    have hne : J ≠ [] := fun h => by rw [h] at hl; cases hl
    rw [Nat.succ_add]
    refine ⟨fun h0 => ?_, fun j hj => ?_⟩
    · obtain ⟨i, hi⟩ := List.exists_mem_of_ne_nil J hne
      have := hM.ready i hi
      rw [h0] at this
      cases this
    · have hjJ := hM.only hne hj
      refine wpOp_mono (fun a' w' h3 => ?_) (hstep J j w hjJ hJ hM.nodup hI)
      obtain ⟨rfl, h4⟩ := h3
      exact ⟨fun _ _ => hS _ _ h4, ih _ _ _ (by rw [List.length_erase_of_mem hjJ, hl]; rfl) (fun i hi => hJ i (List.mem_of_mem_erase hi)) (hM.step hjJ (hJ j hjJ)) h4⟩
end
end Go.Proofs.Ytmnglonjekegcaa.Shuf
