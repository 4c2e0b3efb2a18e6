/- (c11) The example, plain; literal rows of entries. -/
import Derived.Test.YtmnglonjekegcaaVwRd
import Derived.Test.YtmnglonjekegcaaVwSt
import Derived.Test.YtmnglonjekegcaaVwLT
namespace Go.Proofs.Ytmnglonjekegcaa.Vw
open Go Go.RowKit Go.Maps Go.Proofs.Ytmnglonjekegcaa.Mk Go.Proofs.Ytmnglonjekegcaa.Rp Go.Proofs.YtmnglonjekegcaaW.PrintWords Go.Proofs.YtmnglonjekegcaaW.PrintLast Go.Proofs.YtmnglonjekegcaaW.PrintMore Go.Proofs.Ytmnglonjekegcaa.Rw Go.Proofs.Ytmnglonjekegcaa.Ow Go.Proofs.Ytmnglonjekegcaa.Mono
set_option linter.unusedVariables false
set_option linter.unusedSimpArgs false
set_option maxRecDepth 100000
def dE : S47 := ⟨2, 1, 0, 0, 5, ⟨3, 0, 0⟩, false, [], []⟩
def cE : S47 := ⟨3, 1, 0, 0, 0, ⟨0, 0, 0⟩, false, [], []⟩
def fE : S47 := ⟨5, 1, 1, 0, 0, ⟨0, 0, 0⟩, false, [], []⟩
theorem th1 : throughV [dE] = ⟨[], [⟨⟨1, 0, 0, [], [], 0⟩, [(0, dE)]⟩]⟩ := by kernel_rfl
theorem th2 : throughV [dE, cE] = ⟨[⟨5, [⟨3, 0, 0⟩], [false]⟩], [⟨⟨1, 0, 1, [], [], 0⟩, []⟩]⟩ := by kernel_rfl
theorem th3 : throughV [fE, dE, cE] = ⟨[], [⟨⟨1, 1, 0, [], [], 0⟩, []⟩]⟩ := by kernel_rfl
theorem sortI_nil : sortI [] = [] := by simp [sortI]
theorem sortI_one (a : Int) : sortI [a] = [a] := by simp [sortI]
theorem rd1 : readV [dE] = ⟨[], [⟨1, 0, 0, [], [], 1⟩], 1⟩ := by
  unfold readV; rw [th1]; simp only [List.map_cons, List.map_nil, sortI_nil, sortI_one]; rfl
theorem rd2 : readV [dE, cE] = ⟨[⟨5, [⟨3, 0, 0⟩], [false]⟩], [⟨1, 0, 1, [], [], 0⟩], 2⟩ := by
  unfold readV; rw [th2]; simp only [List.map_cons, List.map_nil, sortI_nil, sortI_one]; rfl
theorem rd3 : readV [fE, dE, cE] = ⟨[], [⟨1, 1, 0, [], [], 0⟩], 3⟩ := by
  unfold readV; rw [th3]; simp only [List.map_cons, List.map_nil, sortI_nil, sortI_one]; rfl
theorem st1 : stableV [dE] = 0 := by unfold stableV; rw [th1]; rfl
/-- A literal row of entries without numbers. -/
def ent0 (x : S47) : List Value := entC x none 0 none 0
theorem lit_C (w : World) (l : List S47) (h : ∀ x ∈ l, x.f7 = [] ∧ x.f8 = []) (hl : l.length ≤ 900) {g : Nat} (hg : w.heap[g]? = some (.cells (l.flatMap ent0).toArray 47 (0, 0))) : Kd.C k47 w (some ⟨g, 0, none⟩) l.length l := by
  have hr := reps_map (K := k47.K w) (sz := 11) l ent0 id fun x hx => ⟨by
    obtain ⟨h7, h8⟩ := h x hx
    have hc : ∀ l : List Int, l = [] → (Kd.int .i64).C w none l.length l := fun l hl => by subst hl; exact ⟨rfl, by simp, fun h => by simp at h⟩
    have := k47_mk w x (A9 := none) (c9 := 0) (by rw [h7]; exact Nat.le_refl _) (hc _ h7) (A10 := none) (c10 := 0) (by rw [h8]; exact Nat.le_refl _) (hc _ h8)
    exact this, rfl⟩
  rw [List.map_id] at hr
  have hlen : (l.flatMap ent0).length = l.length * 11 := by
    clear hg hr h hl
    induction l with
    | nil => rfl
    | cons x l ih => rw [List.flatMap_cons, List.length_append, ih, List.length_cons]; show 11 + _ = _; omega
  obtain ⟨A, c, e, _, hC⟩ := C_own (d := k47) (base := 0) (own_mk (rest := []) (n := l.length) (cap := l.length) (sz := 11) (Nat.zero_le _) hg (Nat.le_refl _) (Nat.le_trans hl (by decide)) hlen (by simp) (by simp)) hr rfl
  injection e with e1 _ _
  rw [e1]
  exact hC
end Go.Proofs.Ytmnglonjekegcaa.Vw
