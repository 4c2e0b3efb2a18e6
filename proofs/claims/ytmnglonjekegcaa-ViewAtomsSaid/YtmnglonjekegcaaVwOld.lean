/- (c11) A row that was appended to is still read as it was. -/
import Derived.Test.YtmnglonjekegcaaVwE1
namespace Go.Proofs.Ytmnglonjekegcaa.Vw
open Go Go.RowKit Go.Maps Go.Proofs.Ytmnglonjekegcaa.Mk Go.Proofs.Ytmnglonjekegcaa.Rp Go.Proofs.YtmnglonjekegcaaW.PrintWords Go.Proofs.YtmnglonjekegcaaW.PrintLast Go.Proofs.YtmnglonjekegcaaW.PrintMore Go.Proofs.Ytmnglonjekegcaa.Rw Go.Proofs.Ytmnglonjekegcaa.Ow Go.Proofs.Ytmnglonjekegcaa.Mono
set_option linter.unusedVariables false
set_option linter.unusedSimpArgs false
set_option maxRecDepth 100000
theorem init_C {α : Type} {d : Kd α} {w : World} {A : Option Addr} {n : Nat} {xs ys : List α} (h : Kd.C d w A n (xs ++ ys)) : Kd.C d w A xs.length xs := by
  obtain ⟨h1, h2, h3⟩ := h
  rw [List.length_append] at h1
  refine ⟨rfl, by omega, fun h0 => ?_⟩
  obtain ⟨ad, e, he⟩ := h3 (by omega)
  refine ⟨ad, e, fun j p hj => he j p ?_⟩
  rw [List.getElem?_append_left (List.getElem?_eq_some_iff.1 hj).1]
  exact hj
theorem EO.old {w0 w W1 w' : World} {base : Nat} {A : Option Addr} {n c : Nat} {xs : List S47} (h : EO w0 base w (.slice A n c) xs) (hn : xs.length = n) (hB : Below w0.heap.size w0 w) (hsz : w0.heap.size ≤ w.heap.size) (h1 : Below w.heap.size w W1) {x : S47} {v' : Value} {gl : Nat} {news : List Value} (hgl : W1.heap[gl]? = some (.cells news.toArray 47 (0, 0))) (hnl : news.length = 11) (hn1 : ∀ u ∈ news, u.oneCell' = true)
    (hr : (Builtin.append_ #[22, 22] 22 #[.slice A n c, .slice (some ⟨gl, 0, none⟩) 1 1]).run Try.prog W1 = .ok v' w') (he : EO w0 base w' v' (xs ++ [x])) (hBw : Below w0.heap.size w0 w') (hn6 : n ≤ 100000) : Kd.C k47 w' A n xs := by
  by_cases h0 : n = 0
  · subst h0
    have : xs = [] := List.length_eq_zero_iff.1 hn
    subst this
    exact ⟨rfl, by omega, fun h => by omega⟩
  · obtain ⟨A2, c2, e2, _, _, hC⟩ := (h.below h1).C (below_on hB hsz h1)
    rw [hn] at e2 hC
    obtain ⟨rfl, rfl⟩ : A = A2 ∧ c = c2 := by injection e2 with a _ b; exact ⟨a, b⟩
    obtain ⟨cs, ho, hreps⟩ := h.below h1
    rw [hn] at ho
    obtain ⟨hl, hh⟩ := ho
    rcases hh with ⟨e, _⟩ | ⟨g, cap, cur, e, hb, hg, hnc, hcm, hcs, htk⟩
    · injection e with _ e _; omega
    · obtain ⟨rfl, rfl⟩ : A = some ⟨g, 0, none⟩ ∧ c = cap := by injection e with a _ b; exact ⟨a, b⟩
      obtain ⟨hu, i, zv, hi, hz, hs, hbb, hzc, hz0⟩ := TIE
      have hnews : ∀ j u, news[j]? = some u → W1.cell? ((⟨gl, 0, none⟩ : Addr).add j) = some u := fun j u hj => by rw [Addr.add_lit, Nat.zero_add, cell_row hgl rfl]; exact hj
      have hmax : 9000000 ≤ maxLen := by decide
      by_cases hroom : n + 1 ≤ c
      · have hx := run_append_room (P := Try.prog) (w := W1) 22 22 47 i hu hi g n c cur hg ⟨gl, 0, none⟩ 1 1 news (by rw [hs, hnl]) hnews hn1 hroom (by rw [hs, hnl, hcs]; omega)
        rw [hx] at hr
        injection hr with e1 e3
        obtain ⟨A3, c3, e4, _, _, hC3⟩ := he.C hBw
        rw [← e1] at e4
        injection e4 with e4 _ _
        rw [← e4] at hC3
        have := init_C hC3
        rwa [hn] at this
      · obtain ⟨v2, w2, hr2, _, hgr⟩ := run_append_arg_grows (P := Try.prog) (w := W1) 22 22 47 i zv 11 120 hu hi hz hs hbb hzc hz0 ⟨g, 0, none⟩ n c cs hl (fun j u hj => by
            rw [Addr.add_lit, Nat.zero_add, blk_cell hg]
            have hjl := (List.getElem?_eq_some_iff.1 hj).1
            rw [← htk, List.getElem?_take_of_lt (by omega)] at hj
            simpa using hj) ⟨gl, 0, none⟩ 1 1 news (by rw [hnl]) hnews (by omega) (by omega) (by omega)
        rw [hr2] at hr
        injection hr with e1 e3
        subst e3
        exact Kd.C_below hC ((Below.refl W1.heap.size W1).grown hgr (Nat.le_refl _) fun k hk => by cases hk)
end Go.Proofs.Ytmnglonjekegcaa.Vw
