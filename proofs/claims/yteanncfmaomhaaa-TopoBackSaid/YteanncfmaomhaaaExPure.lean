/- Plain laws of expressions: how deep and how many, their value. -/
import Derived.Test.YteanncfmaomhaaaEx0
namespace Go.Proofs.Yteanncfmaomhaaa.Ex
open Go Go.RowKit Go.Proofs.YteanncfmaomhaaaW.PrintWords Go.Proofs.YteanncfmaomhaaaW.PrintLast Go.Proofs.YteanncfmaomhaaaW.PrintMore
set_option linter.unusedVariables false
set_option linter.unusedSimpArgs false
/-- How many an operation has. -/
def kidsOf (a : Int) : Int := if a ≤ 5 then 0 else if a = 13 then 3 else if a = 14 then 1 else 2
abbrev E := S38
/-- At most d deep, each operation with as many as it has. -/
def fits : Nat → E → Prop
  | 0, _ => False
  | d + 1, e => (1 ≤ e.f0 ∧ e.f0 ≤ 16) ∧ (e.f2.length : Int) = kidsOf e.f0 ∧ ∀ x ∈ e.f2, fits d x
def oneOf (b : Bool) : Int := if b then 1 else 0
/-- What an operation makes of two; none: a division by 0. -/
def twoOf (op a b : Int) : Option Int :=
  if op = 6 then some (wrap64 (a + b))
  else if op = 7 then some (wrap64 (a - b))
  else if op = 8 then some (wrap64 (a * b))
  else if op = 11 then some (oneOf (decide (a < b)))
  else if op = 12 then some (oneOf (a == b))
  else if op = 15 then some (mn a b)
  else if op = 16 then some (mx a b)
  else if b = 0 then none
  else if op = 9 then some (wrap64 (a.tdiv b))
  else some (a.tmod b)
def kid (e : E) (i : Nat) : E := e.f2.getD i z38
/-- The value of an expression that fits; none: a division by 0. -/
def valOf : Nat → Int → Int → Int → Int → E → Option Int
  | 0, _, _, _, _, _ => none
  | d + 1, ky, vl, tm, ac, e =>
    if e.f0 = 1 then some e.f1
    else if e.f0 = 2 then some ky
    else if e.f0 = 3 then some vl
    else if e.f0 = 4 then some tm
    else if e.f0 = 5 then some ac
    else if e.f0 = 14 then (valOf d ky vl tm ac (kid e 0)).bind fun a => some (wrap64 (-a))
    else if e.f0 = 13 then (valOf d ky vl tm ac (kid e 0)).bind fun c => if c = 0 then valOf d ky vl tm ac (kid e 2) else valOf d ky vl tm ac (kid e 1)
    else (valOf d ky vl tm ac (kid e 0)).bind fun a => (valOf d ky vl tm ac (kid e 1)).bind fun b => twoOf e.f0 a b
theorem kid_fits {d : Nat} {e : E} (h : fits (d + 1) e) {i : Nat} (hi : i < e.f2.length) : fits d (kid e i) := by
  refine h.2.2 _ ?_
  unfold kid
  rw [List.getD_eq_getElem?_getD, List.getElem?_eq_getElem hi]
  exact List.getElem_mem _
end Go.Proofs.Yteanncfmaomhaaa.Ex
