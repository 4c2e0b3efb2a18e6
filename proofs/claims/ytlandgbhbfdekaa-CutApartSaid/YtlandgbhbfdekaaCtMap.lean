/- (c16) A map[int]int: its block reads as a list of pairs. -/
import Derived.Test.YtlandgbhbfdekaaWMore
import Derived.Test.YtlandgbhbfdekaaWLast
import Derived.Test.YtlandgbhbfdekaaCtNum
import Derived.WalkMore
import Derived.WalkKit
import Derived.Carry
import Derived.Maps.OwnOps
import Derived.Maps.OwnSet
import Derived.Test.YtlandgbhbfdekaaProg
namespace Go.Proofs.Ytlandgbhbfdekaa.Ex
open Go Go.RowKit Go.Maps Go.Proofs.Ytlandgbhbfdekaa.Mk Go.Proofs.YtlandgbhbfdekaaW.PrintWords Go.Proofs.YtlandgbhbfdekaaW.PrintLast Go.Proofs.YtlandgbhbfdekaaW.PrintMore
set_option linter.unusedVariables false
theorem KI : Keyed Try.prog 3 := int_keyed Try.underlying3
theorem zeroI (w : World) : (zeroValue 3).run Try.prog w = .ok (.int .i64 0) w := by kernel_rfl
def MapI (w : World) (bm : Nat) (L : List (Int × Int)) : Prop := ∃ D : DataW Unit, w.ownsMap Try.prog 3 (plainElem Try.prog 3) bm L.length D ∧ View D L
theorem tightI {w : World} {bm n : Nat} {D : DataW Unit} (h : w.ownsMap Try.prog 3 (plainElem Try.prog 3) bm n D) {m : Nat} (hm : Maps.size D ≤ m) : w.ownsMap Try.prog 3 (plainElem Try.prog 3) bm m D := by
  obtain ⟨es, clock, hb, F, hs, rfl⟩ := h
  refine ⟨es, clock, hb, F, ?_, rfl⟩
  have e1 := length_read (P := Try.prog) (k := 3) (R0 := plainElem (H := Unit) Try.prog 3) es
  rw [size_eq] at hm
  omega
theorem MapI.lt {w : World} {bm : Nat} {L : List (Int × Int)} (h : MapI w bm L) : bm < w.heap.size := h.elim fun _ h => h.1.lt
theorem MapI.kept {w w' : World} {bm : Nat} {L : List (Int × Int)} {row : Option Nat} (h : MapI w bm L) (hg : w.grownBy w' row) (hne : some bm ≠ row) : MapI w' bm L := by
  obtain ⟨D, ho, hv⟩ := h
  exact ⟨D, ho.kept hg hne, hv⟩
theorem MapI.new (w : World) : MapI (w.alloc (.map #[] 0)) w.heap.size [] := ⟨_, World.ownsMap_made w _ _ _, view_nil⟩
theorem wfI {a : Int} (h0 : 0 ≤ a) (h1 : a ≤ 1000) : (Lit.int .i64 a).wf = true := by
  have e1 : IntKind.i64.min = -9223372036854775808 := by decide
  have e2 : IntKind.i64.max = 9223372036854775807 := by decide
  simp only [Lit.wf, e1, e2, Bool.and_eq_true, decide_eq_true_eq]
  omega
theorem MapI.put {w : World} {bm : Nat} {L : List (Int × Int)} {x y : Int} {D : DataW Unit} (hv : View D L) (ho : w.ownsMap Try.prog 3 (plainElem Try.prog 3) bm (L.length + 1) (D.put (.int .i64 x) (.lit (.int .i64 y)))) (hl : lk L x = none) : MapI w bm (L ++ [(x, y)]) := by
  have hv1 := hv.snoc y (k := x) hl
  exact ⟨_, tightI ho (by rw [hv1.size]; exact Nat.le_refl _), hv1⟩
theorem numGo_len : ∀ (xs : List Int) (L : List (Int × Int)), (numGo L xs).length ≤ L.length + xs.length := by
  intro xs
  induction xs with
  | nil => intro L; exact Nat.le_refl _
  | cons x xs ih =>
    intro L
    rw [numGo]
    have := ih (if (Mk.lk L x).isSome = true then L else L ++ [(x, (L.length : Int))])
    refine Nat.le_trans this ?_
    split <;> simp <;> omega
theorem numGo_take {ls : List Int} {i : Nat} {x : Int} (hi : i < ls.length) (hx : ls.getD i 0 = x) : ls.take (i + 1) = ls.take i ++ [x] := by
  rw [List.take_succ_eq_append_getElem hi, ← hx, List.getD_eq_getElem?_getD, List.getElem?_eq_getElem hi]
  rfl
theorem numGo_old {ls : List Int} {i : Nat} {x m : Int} {L : List (Int × Int)} (hL : numGo [] (ls.take i) = L) (hi : i < ls.length) (hx : ls.getD i 0 = x) (hl : lk L x = some m) : numGo [] (ls.take (i + 1)) = L := by
  rw [numGo_take hi hx, numGo_snoc, hL, hl]
  rfl
theorem numGo_new {ls : List Int} {i : Nat} {x : Int} {L : List (Int × Int)} (hL : numGo [] (ls.take i) = L) (hi : i < ls.length) (hx : ls.getD i 0 = x) (hl : lk L x = none) : numGo [] (ls.take (i + 1)) = L ++ [(x, (L.length : Int))] := by
  rw [numGo_take hi hx, numGo_snoc, hL, hl]
  rfl
/-- A row whose first i elements have been turned by g. -/
def half (g : Int → Int) (i : Nat) (ls : List Int) : List Int := (ls.take i).map g ++ ls.drop i
theorem half_len (g : Int → Int) (i : Nat) (ls : List Int) : (half g i ls).length = ls.length := by
  unfold half
  rw [List.length_append, List.length_map, ← List.length_append, List.take_append_drop]
theorem half_zero (g : Int → Int) (ls : List Int) : half g 0 ls = ls := rfl
theorem half_all (g : Int → Int) {n : Nat} {ls : List Int} (h : ls.length = n) : half g n ls = ls.map g := by
  subst h
  unfold half
  rw [List.take_length, List.drop_length, List.append_nil]
theorem half_get (g : Int → Int) {i : Nat} {ls : List Int} (h : i < ls.length) : (half g i ls).getD i 0 = ls.getD i 0 := by
  unfold half
  rw [List.getD_eq_getElem?_getD, List.getElem?_append_right (by simp; omega), List.length_map, List.length_take, Nat.min_eq_left (by omega), Nat.sub_self, List.getElem?_drop, Nat.add_zero, ← List.getD_eq_getElem?_getD]
theorem half_succ (g : Int → Int) {i : Nat} {ls : List Int} (h : i < ls.length) : half g (i + 1) ls = (ls.take i).map g ++ g (ls.getD i 0) :: ls.drop (i + 1) := by
  unfold half
  rw [List.take_succ_eq_append_getElem h, List.map_append, List.append_assoc, List.getD_eq_getElem?_getD, List.getElem?_eq_getElem h]
  rfl
theorem half_cut (g : Int → Int) {i : Nat} {ls : List Int} (h : i < ls.length) : half g i ls = (ls.take i).map g ++ ls.getD i 0 :: ls.drop (i + 1) := by
  unfold half
  rw [List.drop_eq_getElem_cons h, List.getD_eq_getElem?_getD, List.getElem?_eq_getElem h]
  rfl
theorem half_set (g : Int → Int) {i : Nat} {ls : List Int} (h : i < ls.length) {y : Int} (hy : g (ls.getD i 0) = y) : (half g i ls).set i y = half g (i + 1) ls := by
  have hl : ((ls.take i).map g).length = i := by simp; omega
  rw [half_cut g h, half_succ g h, hy, List.set_append_right _ _ (by rw [hl]; exact Nat.le_refl _), hl, Nat.sub_self, List.set_cons_zero]
theorem half_same (g : Int → Int) {i : Nat} {ls : List Int} (h : i < ls.length) (hy : g (ls.getD i 0) = ls.getD i 0) : half g i ls = half g (i + 1) ls := by
  rw [half_cut g h, half_succ g h, hy]
def turn (a b : Int) (x : Int) : Int := if x = max a b then min a b else x
theorem mergeL_turn (a b : Int) (ls : List Int) : mergeL a b ls = ls.map (turn a b) := rfl
end Go.Proofs.Ytlandgbhbfdekaa.Ex
