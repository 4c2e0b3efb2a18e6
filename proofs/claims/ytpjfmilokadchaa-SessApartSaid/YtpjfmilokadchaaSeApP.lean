/- (c14) Plain: sessions made of deeds' puts. -/
import Derived.Test.YtpjfmilokadchaaSeDeed
namespace Go.Proofs.Ytpjfmilokadchaa.Se
open Go Go.RowKit Go.Proofs.Ytpjfmilokadchaa.Ex
set_option linter.unusedVariables false
set_option linter.unusedSimpArgs false
def AInv (g : Int) (ds : List Deed) (L : List Ses) : Prop := (∃ P, Inv g P L ∧ ∀ p : Int × Int, p ∈ P ↔ ∃ d ∈ ds, (d.2.1, d.2.2.1) = p ∧ 0 ≤ d.2.2.1 ∧ d.2.2.1 ≤ 1099511627776) ∧ L.length ≤ ds.length
theorem AInv.start (g : Int) : AInv g [] [] := ⟨⟨[], Inv.nil g, fun p => ⟨fun h => (List.not_mem_nil h).elim, fun ⟨d, h, _⟩ => (List.not_mem_nil h).elim⟩⟩, Nat.le_refl _⟩
theorem AInv.yes {g : Int} {ds : List Deed} {L : List Ses} (h : AInv g ds L) (hg : 1 ≤ g) (d : Deed) (h0 : 0 ≤ d.2.2.1) (h1 : d.2.2.1 ≤ 1099511627776) (v : Int) : AInv g (ds ++ [d]) (putS g L d.2.1 d.2.2.1 v) := by
  obtain ⟨⟨P, hp, hm⟩, hl⟩ := h
  refine ⟨⟨_, hp.put hg ⟨h0, h1⟩, fun p => ?_⟩, by have := put_len_le g L d.2.1 d.2.2.1 v; rw [List.length_append]; simp; omega⟩
  rw [List.mem_cons, hm]
  constructor
  · rintro (e | ⟨d2, h2, h3⟩)
    · exact ⟨d, by simp, e.symm, h0, h1⟩
    · exact ⟨d2, by simp [h2], h3⟩
  · rintro ⟨d2, h2, h3⟩
    rcases List.mem_append.1 h2 with h2 | h2
    · exact .inr ⟨d2, h2, h3⟩
    · rw [List.mem_singleton] at h2
      subst h2
      exact .inl h3.1.symm
theorem AInv.no {g : Int} {ds : List Deed} {L : List Ses} (h : AInv g ds L) (d : Deed) (hn : ¬ (0 ≤ d.2.2.1 ∧ d.2.2.1 ≤ 1099511627776)) : AInv g (ds ++ [d]) L := by
  obtain ⟨⟨P, hp, hm⟩, hl⟩ := h
  refine ⟨⟨P, hp, fun p => ?_⟩, by rw [List.length_append]; omega⟩
  rw [hm]
  constructor
  · rintro ⟨d2, h2, h3⟩
    exact ⟨d2, by simp [h2], h3⟩
  · rintro ⟨d2, h2, h3⟩
    rcases List.mem_append.1 h2 with h2 | h2
    · exact ⟨d2, h2, h3⟩
    · rw [List.mem_singleton] at h2
      subst h2
      exact absurd h3.2 hn
theorem AInv.near {g : Int} {ds : List Deed} {L : List Ses} (h : AInv g ds L) {i : Nat} {x y : Ses} (hx : L[i]? = some x) (hy : L[i + 1]? = some y) (hk : y.k = x.k) : x.b + g < y.a := by
  obtain ⟨⟨P, hp, hm⟩, hl⟩ := h
  obtain ⟨h1, e1⟩ := List.getElem?_eq_some_iff.1 hx
  obtain ⟨h2, e2⟩ := List.getElem?_eq_some_iff.1 hy
  have := List.pairwise_iff_getElem.1 hp.good.apart i (i + 1) h1 h2 (by omega)
  rw [e1, e2] at this
  exact this hk.symm
def atB (k t : Int) (d : Deed) : Bool := (d.2.1 == k) && (d.2.2.1 == t)
theorem AInv.first {g : Int} {ds : List Deed} {L : List Ses} (h : AInv g ds L) {x : Ses} (hx : x ∈ L) : ds.any (atB x.k x.a) = true ∧ ds.any (atB x.k x.b) = true := by
  obtain ⟨⟨P, hp, hm⟩, hl⟩ := h
  obtain ⟨h1, h2⟩ := hp.ends x hx
  obtain ⟨d1, m1, e1, _⟩ := (hm _).1 h1
  obtain ⟨d2, m2, e2, _⟩ := (hm _).1 h2
  simp only [Prod.mk.injEq] at e1 e2
  exact ⟨List.any_eq_true.2 ⟨d1, m1, by unfold atB; simp [e1.1, e1.2]⟩, List.any_eq_true.2 ⟨d2, m2, by unfold atB; simp [e2.1, e2.2]⟩⟩
def inB (k t : Int) (x : Ses) : Bool := (x.k == k) && (decide (x.a ≤ t) && decide (t ≤ x.b))
theorem AInv.count {g : Int} {ds : List Deed} {L : List Ses} (h : AInv g ds L) (hg : 1 ≤ g) {d : Deed} (hd : d ∈ ds) (h0 : 0 ≤ d.2.2.1) (h1 : d.2.2.1 ≤ 1099511627776) : (L.filter (inB d.2.1 d.2.2.1)).length = 1 := by
  obtain ⟨⟨P, hp, hm⟩, hl⟩ := h
  exact hp.count hg (p := (d.2.1, d.2.2.1)) ((hm _).2 ⟨d, hd, rfl, h0, h1⟩)
theorem AInv.none {g : Int} {ds : List Deed} {L : List Ses} (h : AInv g ds L) {k t : Int} (hn : ¬ (0 ≤ t ∧ t ≤ 1099511627776)) : (L.filter (inB k t)).length = 0 := by
  obtain ⟨⟨P, hp, hm⟩, hl⟩ := h
  rw [List.length_eq_zero_iff, List.filter_eq_nil_iff]
  intro x hx hh
  unfold inB at hh
  simp only [Bool.and_eq_true, beq_iff_eq, decide_eq_true_eq] at hh
  have := hp.good.span x hx
  omega
theorem any_snoc {ds : List Deed} {k : Nat} {d : Deed} {f : Deed → Bool} (h : ds[k]? = some d) : (ds.take (k + 1)).any f = ((ds.take k).any f || f d) := by
  obtain ⟨hl, rfl⟩ := List.getElem?_eq_some_iff.1 h
  rw [List.take_succ_eq_append_getElem hl, List.any_append]
  simp
theorem cnt_snoc {L : List Ses} {k : Nat} {x : Ses} {f : Ses → Bool} (h : L[k]? = some x) : ((L.take (k + 1)).filter f).length = ((L.take k).filter f).length + (if f x = true then 1 else 0) := by
  obtain ⟨hl, rfl⟩ := List.getElem?_eq_some_iff.1 h
  rw [List.take_succ_eq_append_getElem hl, List.filter_append, List.length_append]
  cases hf : f L[k] <;> simp [List.filter_cons, hf]
theorem putL_no {room g : Int} {L : List Ses} {key t v : Int} (hm : ¬ (0 ≤ t ∧ t ≤ 1099511627776)) : putL room g L key t v = L ∧ putE room g L key t = 2 := by
  have h : mayT t = false := by
    unfold mayT
    simp only [Bool.and_eq_false_iff, decide_eq_false_iff_not]
    omega
  have h2 : putOK room g L key t = false := by unfold putOK; rw [h]; rfl
  exact ⟨by unfold putL; rw [h2]; rfl, by unfold putE; rw [h]; rfl⟩
theorem putE_yes {room g : Int} {L : List Ses} {key t : Int} (hm : 0 ≤ t ∧ t ≤ 1099511627776) (hl : (L.length : Int) < room) : putE room g L key t = 0 := by
  have h : mayT t = true := by
    unfold mayT
    simp only [Bool.and_eq_true, decide_eq_true_eq]
    exact hm
  unfold putE
  rw [if_pos h, if_pos (putL_ok (v := 0) hm hl).1]
end Go.Proofs.Ytpjfmilokadchaa.Se
