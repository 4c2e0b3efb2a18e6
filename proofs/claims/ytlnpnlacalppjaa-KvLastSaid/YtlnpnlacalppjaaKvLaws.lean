/- Plain laws of a store, statement by statement; no program in sight. -/
import Derived.Test.YtlnpnlacalppjaaKvPure
namespace Go.Proofs.Ytlnpnlacalppjaa.Kv
set_option linter.unusedVariables false
set_option linter.unusedSimpArgs false
/-- May a key be put? -/
def mayPut (room : Int) (L : KL) (k : Int) : Bool := (get L k).isSome || decide ((L.length : Int) < room)
def putL (room : Int) (L : KL) (k v : Int) : KL := if mayPut room L k = true then put L k v else L
theorem dom_put {L : KL} (h : Rise L) (k v k' : Int) : (get (put L k v) k').isSome = (decide (k' = k) || (get L k').isSome) := by
  by_cases e : k' = k
  · subst e
    rw [get_put_same h]
    simp
  · rw [get_put_other h e]
    simp [e]
theorem len_put {L : KL} (h : Rise L) (k v : Int) : (put L k v).length = if (get L k).isSome = true then L.length else L.length + 1 := by
  cases hg : get L k with
  | none => rw [len_put_new h hg]; rfl
  | some x => rw [len_put_has h hg]; rfl
theorem len_put_le {L : KL} (h : Rise L) (k v : Int) : (put L k v).length ≤ L.length + 1 := by
  rw [len_put h]
  split <;> omega
theorem putL_rise {L : KL} (h : Rise L) (room k v : Int) : Rise (putL room L k v) := by
  unfold putL
  split
  · exact h.put k v
  · exact h
theorem putL_len {L : KL} (h : Rise L) (room k v : Int) (hr : (L.length : Int) ≤ room) : ((putL room L k v).length : Int) ≤ room := by
  unfold putL mayPut
  split
  · rename_i hm
    rw [len_put h]
    split
    · exact hr
    · rename_i hs
      simp only [Bool.or_eq_true, decide_eq_true_eq] at hm
      rcases hm with hm | hm
      · exact absurd hm hs
      · omega
  · exact hr
theorem del_len_le (L : KL) (k : Int) : (del L k).length ≤ L.length := by
  induction L with
  | nil => exact Nat.le_refl _
  | cons p r ih =>
    rw [del]
    split
    · simp
    · simp only [List.length_cons]; omega
/-- KvFull: i rounds are done. -/
structure FullInv (n i : Nat) (L : KL) : Prop where
  rise : Rise L
  dom : ∀ k : Int, (get L k).isSome = decide (0 ≤ k ∧ k < ((min n i : Nat) : Int))
  len : L.length = min n i
theorem FullInv.start (n : Nat) : FullInv n 0 [] := ⟨List.Pairwise.nil, fun k => by simp [get], by simp⟩
theorem FullInv.one {n i : Nat} {L : KL} (h : FullInv n i L) : mayPut n L i = decide (i < n) := by
  unfold mayPut
  rw [h.dom, h.len]
  by_cases hi : i < n
  · simp [hi, show min n i = i by omega]
  · simp [hi]; omega
/-- .. and the first half of the next one. -/
structure HalfInv (n i : Nat) (L : KL) : Prop where
  rise : Rise L
  dom : ∀ k : Int, (get L k).isSome = decide (0 ≤ k ∧ k < ((min n (i + 1) : Nat) : Int))
  len : L.length = min n (i + 1)
theorem FullInv.half {n i : Nat} {L : KL} (h : FullInv n i L) (v : Int) : HalfInv n i (putL n L i v) := by
  have h1 := h.one
  refine ⟨putL_rise h.rise _ _ _, fun k => ?_, ?_⟩
  · unfold putL
    rw [h1]
    by_cases hi : i < n
    · rw [if_pos (by simpa using hi), dom_put h.rise, h.dom]
      rw [Bool.eq_iff_iff]
      simp only [Bool.or_eq_true, decide_eq_true_eq]
      omega
    · rw [if_neg (by simpa using hi), h.dom, show min n (i + 1) = min n i by omega]
  · unfold putL
    rw [h1]
    by_cases hi : i < n
    · rw [if_pos (by simpa using hi), len_put h.rise, h.dom, if_neg (by simp; omega), h.len]
      omega
    · rw [if_neg (by simpa using hi), h.len]
      omega
theorem HalfInv.may {n i : Nat} {L : KL} (h : HalfInv n i L) (hn : 0 < n) : mayPut n L 0 = true := by
  unfold mayPut
  rw [h.dom, show decide ((0 : Int) ≤ 0 ∧ (0 : Int) < ((min n (i + 1) : Nat) : Int)) = true by simp; omega]
  rfl
theorem HalfInv.next {n i : Nat} {L : KL} (h : HalfInv n i L) (hn : 0 < n) (v : Int) : FullInv n (i + 1) (putL n L 0 v) := by
  have hd : (get L 0).isSome = true := by rw [h.dom]; simp; omega
  unfold putL
  rw [if_pos (h.may hn)]
  refine ⟨h.rise.put _ _, fun k => ?_, ?_⟩
  · rw [dom_put h.rise, h.dom]
    rw [Bool.eq_iff_iff]
    simp only [Bool.or_eq_true, decide_eq_true_eq]
    omega
  · rw [len_put h.rise, if_pos hd, h.len]
/-- KvOrder: the keys ks were put, each with a value of its own. -/
structure OrdInv (f : Int → Int) (ks : List Int) (L : KL) : Prop where
  rise : Rise L
  get_ : ∀ k, get L k = if k ∈ ks then some (f k) else none
  len : L.length ≤ ks.length
theorem OrdInv.start (f : Int → Int) : OrdInv f [] [] := ⟨List.Pairwise.nil, fun k => by simp [get], Nat.le_refl _⟩
theorem OrdInv.snoc {f : Int → Int} {ks : List Int} {L : KL} (h : OrdInv f ks L) (k : Int) : OrdInv f (ks ++ [k]) (put L k (f k)) := by
  refine ⟨h.rise.put _ _, fun x => ?_, ?_⟩
  · by_cases e : x = k
    · subst e
      rw [get_put_same h.rise, if_pos (by simp)]
    · rw [get_put_other h.rise e, h.get_]
      simp [e]
  · have := len_put_le h.rise k (f k)
    have := h.len
    simp
    omega
theorem OrdInv.cons {f : Int → Int} {ks : List Int} {L : KL} (h : OrdInv f ks L) (k : Int) : OrdInv f (k :: ks) (put L k (f k)) := by
  refine ⟨h.rise.put _ _, fun x => ?_, ?_⟩
  · by_cases e : x = k
    · subst e
      rw [get_put_same h.rise, if_pos (by simp)]
    · rw [get_put_other h.rise e, h.get_]
      simp [e]
  · have := len_put_le h.rise k (f k)
    have := h.len
    simp
    omega
theorem OrdInv.same {f : Int → Int} {ks : List Int} {L M : KL} (h : OrdInv f ks L) (h2 : OrdInv f ks M) : L = M := ext h.rise h2.rise fun k => by rw [h.get_, h2.get_]
theorem may_small {room : Int} {L : KL} (h : (L.length : Int) < room) (k : Int) : mayPut room L k = true := by
  unfold mayPut
  simp [h]
theorem put_head {p : Int × Int} {r : KL} (h : Rise (p :: r)) : put r p.1 p.2 = p :: r := by
  cases r with
  | nil => rfl
  | cons q r =>
    have := h.head q List.mem_cons_self
    rw [put, if_neg (by omega), if_neg (by omega)]
theorem put_drop {L : KL} (h : Rise L) {i : Nat} (hi : i < L.length) : put (L.drop (i + 1)) (L[i]'hi).1 (L[i]'hi).2 = L.drop i := by
  rw [List.drop_eq_getElem_cons hi]
  exact put_head (by rw [← List.drop_eq_getElem_cons hi]; exact List.Pairwise.sublist (List.drop_sublist _ _) h)
theorem Rise.lt {L : KL} (h : Rise L) {i : Nat} {p q : Int × Int} (hp : L[i]? = some p) (hq : L[i + 1]? = some q) : p.1 < q.1 := by
  obtain ⟨a, rfl⟩ := List.getElem?_eq_some_iff.1 hp
  obtain ⟨b, rfl⟩ := List.getElem?_eq_some_iff.1 hq
  exact List.pairwise_iff_getElem.1 h i (i + 1) a b (by omega)
end Go.Proofs.Ytlnpnlacalppjaa.Kv
