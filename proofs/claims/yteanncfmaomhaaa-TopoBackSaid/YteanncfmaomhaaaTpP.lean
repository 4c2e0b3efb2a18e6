/- Plain laws of topologies: what a vertex has, which one is the first with which error. -/
import Derived.Test.YteanncfmaomhaaaExMay
namespace Go.Proofs.Yteanncfmaomhaaa.Ex
open Go Go.RowKit Go.Proofs.YteanncfmaomhaaaW.PrintWords Go.Proofs.YteanncfmaomhaaaW.PrintLast Go.Proofs.YteanncfmaomhaaaW.PrintMore
set_option linter.unusedVariables false
set_option linter.unusedSimpArgs false
abbrev Vx := S40
structure Fm where
  fr : Int
  e : Bool
  acc : Bool
  least : Int
  most : Int
  own : Bool
def fmOf (k : Int) : Fm :=
  if k = 1 then ⟨0, false, false, 0, 7, true⟩
  else if k = 2 ∨ k = 3 ∨ k = 4 ∨ k = 5 then ⟨1, true, false, 0, 0, false⟩
  else if k = 6 then ⟨1, true, true, 0, 0, false⟩
  else if k = 7 ∨ k = 8 then ⟨1, true, true, 1, 1048576, false⟩
  else if k = 9 then ⟨2, true, true, 0, 0, false⟩
  else if k = 10 then ⟨1, false, false, 0, 7, true⟩
  else ⟨0, false, false, 0, 0, false⟩
/-- Is what was gathered in it? -/
def usesB : Nat → E → Bool
  | 0, _ => false
  | d + 1, e => (e.f0 == 5) || e.f2.any (usesB d)
def zeroB (e : E) : Bool := (e.f0 == 0) && ((e.f1 == 0) && ((e.f2.length : Int) == 0))
def formB (f : Fm) (e : E) : Bool := if f.e = true then mayB e && (f.acc || !usesB 16 e) else zeroB e
def hasB (f : Fm) (v : Vx) : Bool := ((v.f1.length : Int) == f.fr) && (formB f v.f2 && (decide (f.least ≤ v.f3) && decide (v.f3 ≤ f.most)))
def vAt (l : List Vx) (x : Int) : Vx := rd_T40 l x
def badB (i : Nat) (x : Int) : Bool := decide (x < 0) || decide ((i : Int) ≤ x)
def sinkB (l : List Vx) (x : Int) : Bool := (vAt l x).f0 == 10
/-- A vertex's error; ks: the kinds and numbers of those ahead. -/
def vertOf (l : List Vx) (i : Nat) (v : Vx) (ks : List (Int × Int)) : Int :=
  if v.f0 < 1 ∨ 10 < v.f0 then 1
  else if v.f1.any (badB i) = true then 2
  else if hasB (fmOf v.f0) v = false then 5
  else if (fmOf v.f0).own = true ∧ (v.f0, v.f3) ∈ ks then 12
  else if v.f1.any (sinkB l) = true then 5
  else if v.f0 = 9 ∧ (vAt l (rd v.f1 1)).f0 ≠ 6 then 5
  else 0
def checkGo (l : List Vx) : Nat → List Vx → List (Int × Int) → Int × Int
  | _, [], _ => (-1, 0)
  | i, v :: vs, ks => if vertOf l i v ks = 0 then checkGo l (i + 1) vs ((v.f0, v.f3) :: ks) else ((i : Int), vertOf l i v ks)
def checkOf (l : List Vx) (p : Int) : Int × Int := if p < 1 ∨ 8 < p ∨ l.length = 0 ∨ 24 < l.length then (-1, 2) else checkGo l 0 l []
def okV (l : List Vx) : Bool := l.all fun v => decide (-9223372036854775808 ≤ v.f3 ∧ v.f3 ≤ 9223372036854775807)
theorem uses_l0 (op : Int) (l : List E) (hl : l.length ≤ 9223372036854775807) (g : E → Bool) (hf : ∀ x ∈ l, Ev (fun k => expr_Uses.f k x.f0 x.f1 x.f2 op) (g x)) :
    ∀ (r i : Nat), i + r = l.length → Ev (fun k => expr_Uses.l0 k op l (l.length : Int) (i : Int)) ((l.drop i).any g) := by
  intro r
  induction r with
  | zero =>
    intro i hi
    rw [List.drop_of_length_le (by omega)]
    refine Ev.step (f := fun _ => some false) (fun k => ?_) (Ev.now _)
    simp only [expr_Uses.l0]
    rw [if_neg (by omega)]
  | succ r ih =>
    intro i hi
    have hlt : i < l.length := by omega
    rw [drop_rd hlt, List.any_cons]
    refine Ev.step (f := fun k => (expr_Uses.f k (rd_T38 l (i : Int)).f0 (rd_T38 l (i : Int)).f1 (rd_T38 l (i : Int)).f2 op).bind fun t => if t = true then some true else expr_Uses.l0 k op l (l.length : Int) ((i + 1 : Nat) : Int)) (fun k => ?_) ?_
    · simp only [expr_Uses.l0]
      rw [if_pos (by omega), if_pos (by omega), if_pos (by omega), wsucc (by omega)]
    · refine Ev.bind (hf _ (rd_mem hlt)) ?_
      cases g (rd_T38 l (i : Int)) with
      | true => exact Ev.now _
      | false => exact ih (i + 1) (by omega)
theorem usesB_ev : ∀ (d : Nat) (e : E), okB d e = true → Ev (fun k => expr_Uses.f k e.f0 e.f1 e.f2 5) (usesB d e) := by
  intro d
  induction d with
  | zero => intro e h; simp [okB] at h
  | succ d ih =>
    intro e h
    have hs := okB_succ h
    have hk := kidsOf_le e.f0
    unfold usesB
    by_cases h1 : e.f0 = 5
    · refine Ev.step (f := fun _ => some true) (fun k => by simp only [expr_Uses.f]; rw [if_pos h1]) ?_
      have : (e.f0 == 5) = true := by simpa using h1
      rw [this, Bool.true_or]
      exact Ev.now _
    · refine Ev.step (f := fun k => expr_Uses.l0 k 5 e.f2 (e.f2.length : Int) ((0 : Nat) : Int)) (fun k => by simp only [expr_Uses.f]; rw [if_neg h1]; rfl) ?_
      have : (e.f0 == 5) = false := by simpa using h1
      rw [this, Bool.false_or]
      have := uses_l0 5 e.f2 (by omega) (usesB d) (fun x hx => ih x (hs.2 x hx)) e.f2.length 0 (by omega)
      rwa [List.drop_zero] at this
end Go.Proofs.Yteanncfmaomhaaa.Ex
