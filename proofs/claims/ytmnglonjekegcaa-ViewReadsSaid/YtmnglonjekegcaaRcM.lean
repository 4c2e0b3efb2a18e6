/- May's map of eight marks: what it reads as while the marks come in, in any order. -/
import Derived.Test.YtmnglonjekegcaaRcA
import Derived.Test.YtmnglonjekegcaaShuf
namespace Go.Proofs.Ytmnglonjekegcaa.Rc
open Go Go.RowKit Go.Maps Go.Proofs.YtmnglonjekegcaaW.PrintWords Go.Proofs.YtmnglonjekegcaaW.PrintLast Go.Proofs.YtmnglonjekegcaaW.PrintMore
set_option linter.unusedVariables false
set_option linter.unusedSimpArgs false
theorem K3 : Keyed Try.prog 3 := int_keyed Try.underlying3
/-- Which operation lays which mark. -/
def slotOf : Nat → Nat
  | 0 => 4 | 1 => 8 | 2 => 12 | 3 => 16 | 4 => 21 | 5 => 24 | 6 => 29 | _ => 34
def bitL (j : Nat) : Lit := .int .i64 ((2 ^ j : Nat) : Int)
/-- Those of J are still to come. -/
structure MView (bs : Nat → Bool) (J : List Nat) (D : DataW Unit) : Prop where
  tidy : Tidy D
  has : ∀ j, j < 8 → Maps.has D (bitL j) = decide (slotOf j ∉ J)
  at_ : ∀ j, j < 8 → slotOf j ∉ J → ∀ z, D.atKey (bitL j) z = .lit (.bool (bs j))
  only : ∀ k : Lit, Maps.has D k = true → ∃ j, j < 8 ∧ k = bitL j
def MInv (bs : Nat → Bool) (w0 : World) (bm : Nat) (J : List Nat) (w : World) : Prop :=
  Below w0.heap.size w0 w ∧ ∃ (D : DataW Unit) (m : Nat), m + J.length ≤ 8 ∧ w.ownsMap Try.prog 3 (plainElem Try.prog 4) bm m D ∧ MView bs J D
theorem bitL_key (j : Nat) : WideAt.IsKeyLit (bitL j) := by unfold bitL; simp [WideAt.IsKeyLit]
theorem bitL_ne {i j : Nat} (hi : i < 8) (hj : j < 8) (h : i ≠ j) : bitL i ≠ bitL j := by
  have h8 : ∀ a : Fin 8, ∀ b : Fin 8, a ≠ b → ((2 ^ (a : Nat) : Nat) : Int) ≠ ((2 ^ (b : Nat) : Nat) : Int) := by decide
  unfold bitL
  intro e
  injection e with _ e
  exact h8 ⟨i, hi⟩ ⟨j, hj⟩ (fun e => h (congrArg Fin.val e)) e
theorem slotOf_inj {i j : Nat} (hi : i < 8) (hj : j < 8) (h : slotOf i = slotOf j) : i = j := by
  have : ∀ a : Fin 8, ∀ b : Fin 8, slotOf a = slotOf b → a = b := by decide
  have := this ⟨i, hi⟩ ⟨j, hj⟩ h
  exact congrArg Fin.val this
theorem MView.put {bs : Nat → Bool} {J : List Nat} {D : DataW Unit} (h : MView bs J D) (hn : J.Nodup) {i : Nat} (hi : i < 8) (hj : slotOf i ∈ J) : MView bs (J.erase (slotOf i)) (D.put (bitL i) (.lit (.bool (bs i)))) := by
  have hm : ∀ x, x ∈ J.erase (slotOf i) ↔ x ≠ slotOf i ∧ x ∈ J := fun x => hn.mem_erase_iff
  refine ⟨h.tidy.put (bitL_key i) _, fun j hj8 => ?_, fun j hj8 hjn z => ?_, fun k hk => ?_⟩
  · by_cases e : j = i
    · subst e
      rw [has_put_same h.tidy.isMap (bitL_key j)]
      symm
      rw [decide_eq_true_eq, hm]
      exact fun h => h.1 rfl
    · rw [has_put_other (bitL_ne hj8 hi e), h.has j hj8]
      congr 1
      rw [hm]
      have : slotOf j ≠ slotOf i := fun h => e (slotOf_inj hj8 hi h)
      simp [this]
  · by_cases e : j = i
    · subst e
      rw [atKey_put_same h.tidy.isMap (bitL_key j)]
    · rw [atKey_put_other (bitL_ne hj8 hi e)]
      refine h.at_ j hj8 (fun hx => hjn ((hm _).2 ⟨fun h => e (slotOf_inj hj8 hi h), hx⟩)) z
  · by_cases e : k = bitL i
    · exact ⟨i, hi, e⟩
    · rw [has_put_other e] at hk
      exact h.only k hk
theorem MInv.insert {bs : Nat → Bool} {w0 : World} {bm : Nat} {J : List Nat} {w : World} (h : MInv bs w0 bm J w) (hb : w0.heap.size ≤ bm) (hs : w0.heap.size ≤ w.heap.size) (hn : J.Nodup) {j : Nat} (hj : j < 8) (hJ : slotOf j ∈ J) :
    ∃ w', (Instr.mapUpdate 91 (.map (some bm)) (.int .i64 ((2 ^ j : Nat) : Int)) (.bool (bs j))).run Try.prog w = .ok () w' ∧ MInv bs w0 bm (J.erase (slotOf j)) w' ∧ w.grownBy w' (some bm) := by
  obtain ⟨h1, D, m, hm, ho, hv⟩ := h
  have hkw : (Lit.int .i64 ((2 ^ j : Nat) : Int)).wf = true := by
    have h8 : ∀ a : Fin 8, (Lit.int .i64 ((2 ^ (a : Nat) : Nat) : Int)).wf = true := by decide
    exact h8 ⟨j, hj⟩
  obtain ⟨w', hrun, r1, r2⟩ := ho.update K3 Try.underlying91 (by have : 24 < maxLen := (by decide); omega) (keyOf_int_mk Try.underlying3 hkw) (plainElem_bool (H := Unit) (P := Try.prog) (e := 4) Try.underlying4 (bs j))
  have hp : 0 < J.length := List.length_pos_of_mem hJ
  exact ⟨w', hrun, ⟨h1.grown r2 hs (fun k hk => by cases hk; exact hb), _, m + 1, by rw [List.length_erase_of_mem hJ]; omega, r1, hv.put hn hj hJ⟩, r2⟩
theorem MInv.start (bs : Nat → Bool) (w0 w : World) (h : Below w0.heap.size w0 w) : MInv bs w0 w.heap.size [4, 8, 12, 16, 21, 24, 29, 34] (w.alloc (.map #[] 0)) := by
  refine ⟨below_alloc h _, .map [], 0, by decide, World.ownsMap_made _ _ _ _, ⟨?_, ?_, ?_, ?_⟩⟩
  · exact tidy_empty
  · intro j hj
    have h8 : ∀ a : Fin 8, slotOf a ∈ [4, 8, 12, 16, 21, 24, 29, 34] := by decide
    rw [decide_eq_false (fun h => h (h8 ⟨j, hj⟩))]
    rfl
  · intro j hj hn
    have h8 : ∀ a : Fin 8, slotOf a ∈ [4, 8, 12, 16, 21, 24, 29, 34] := by decide
    exact absurd (h8 ⟨j, hj⟩) hn
  · intro k hk
    cases hk
/-- Under way through the map: what has been gathered, the keys that are still to come. -/
structure URel (bs : Nat → Bool) (left : Lit → Bool) (u : Nat) : Prop where
  bits : ∀ j, u.testBit j = (decide (j < 8) && bs j && !left (bitL j))
  only : ∀ k : Lit, left k = true → ∃ j, j < 8 ∧ k = bitL j
theorem URel.start {bs : Nat → Bool} {D : DataW Unit} (h : MView bs [] D) : URel bs (Maps.has D) 0 := by
  refine ⟨fun j => ?_, h.only⟩
  rw [Nat.zero_testBit]
  by_cases hj : j < 8
  · rw [h.has j hj]
    simp
  · simp [hj]
theorem URel.done {bs : Nat → Bool} {left : Lit → Bool} {u : Nat} (h : URel bs left u) (hl : ∀ k, left k = false) : u = mask bs :=
  mask_eq (fun j => by rw [h.bits, hl]; simp)
theorem bitL_same {i j : Nat} (hi : i < 8) (hj : j < 8) : (bitL i).sameKey (bitL j) = decide (i = j) := by
  have h8 : ∀ a : Fin 8, ∀ b : Fin 8, (bitL a).sameKey (bitL b) = decide ((a : Nat) = (b : Nat)) := by decide
  exact h8 ⟨i, hi⟩ ⟨j, hj⟩
theorem URel.step {bs : Nat → Bool} {left : Lit → Bool} {u j : Nat} (h : URel bs left u) (hj : j < 8) (hl : left (bitL j) = true) : URel bs (fun z => left z && !z.sameKey (bitL j)) (if bs j = true then u ||| 2 ^ j else u) := by
  refine ⟨fun i => ?_, fun k hk => h.only k (by simp at hk; exact hk.1)⟩
  by_cases hi : i < 8
  · have e := bitL_same hi hj
    by_cases hij : i = j
    · subst hij
      rw [e]
      have hb := h.bits i
      rw [hl] at hb
      simp [hi] at hb ⊢
      cases hbs : bs i <;> simp [Nat.testBit_or, hb]
    · rw [e]
      have hb := h.bits i
      cases hbs : bs j <;> simp [Nat.testBit_or, Nat.testBit_two_pow, hb, hi, hij, fun h => hij (Eq.symm h)]
      intro h2
      exact absurd h2.symm hij
  · have hb := h.bits i
    cases hbs : bs j <;> simp [Nat.testBit_or, Nat.testBit_two_pow, hb, hi]
    omega
theorem URel.lt {bs : Nat → Bool} {left : Lit → Bool} {u : Nat} (h : URel bs left u) : u < 256 := by
  refine Nat.lt_pow_two_of_testBit u (n := 8) (fun i hi => ?_)
  rw [h.bits]
  have : ¬ i < 8 := by omega
  simp [this]
theorem or_bits (u j : Nat) (hu : u < 256) (hj : j < 8) : Go.bits .or .i64 (u : Int) ((2 ^ j : Nat) : Int) = ((u ||| 2 ^ j : Nat) : Int) := by
  have h8 : ∀ a : Fin 256, ∀ b : Fin 8, Go.bits .or .i64 ((a : Nat) : Int) ((2 ^ (b : Nat) : Nat) : Int) = (((a : Nat) ||| 2 ^ (b : Nat) : Nat) : Int) := by decide +kernel
  exact h8 ⟨u, hu⟩ ⟨j, hj⟩
theorem andNot_bits (u k : Nat) (hu : u < 256) (hk : k < 7) : (Go.bits .andNot .i64 (u : Int) ((kinds.getD k 0 : Nat) : Int) == 0) = (List.range 8).all fun i => !u.testBit i || (kinds.getD k 0).testBit i := by
  have h8 : ∀ a : Fin 256, ∀ b : Fin 7, (Go.bits .andNot .i64 ((a : Nat) : Int) ((kinds.getD b 0 : Nat) : Int) == 0) = (List.range 8).all fun i => !(a : Nat).testBit i || (kinds.getD b 0).testBit i := by decide +kernel
  exact h8 ⟨u, hu⟩ ⟨k, hk⟩
end Go.Proofs.Ytmnglonjekegcaa.Rc
