import Derived.Test.YtmnglonjekegcaaProg
import Derived.Below
import Derived.Deep.Draws
import Derived.Deep.AppendLies
import Derived.Maps.AppendAt
import Derived.OwnWalk
import Derived.Laws.BytesArg
import Derived.Laws.MakeOwn
import Derived.Laws.OwnMore
import Derived.Deep.OwnRows
import Derived.Tactics
import Derived.Lib.ConvBytes
import Derived.Laws.Slices
import Derived.WalkKit
import Derived.KernelRfl
import Derived.RowKit3
import Derived.Deep.LoopGhost
import Derived.Deep.QuietTactic
import Derived.BigQuiet
import Derived.WideLaws
import Derived.Deep.DeepCutAuto
import Derived.Deep.CutBlock
import Derived.Deep.RegionHeld3
import Derived.Laws.Rows
import Derived.Lib.AppendStr
import Derived.ArgAppend
import Derived.Laws.IdiomCopy
import Derived.OrdersHeld
import Derived.Laws.BitsLemmas
import Derived.RowKit
import Derived.Test.YtmnglonjekegcaaWWords
namespace Go.Proofs.Ytmnglonjekegcaa.Rp
open Go.RowKit Go.Proofs.YtmnglonjekegcaaW.PrintWords Go.Proofs.YtmnglonjekegcaaW.PrintLast Go.Proofs.YtmnglonjekegcaaW.PrintMore
attribute [local go_sem] max2_int min2_int max_two min_two max_three min_three max_four min_four   -- for this text's walks alone
set_option linter.unusedVariables false
set_option linter.unusedSimpArgs false



def errW : Option Int → Value
  | none => .nilIface
  | some c => .iface 0 (.int .i64 c)
theorem errW_none : errW none = .nilIface := rfl
theorem errW_some (c : Int) : errW (some c) = .iface 0 (.int .i64 c) := rfl

theorem info3 : (Try.prog.info? 3).map (fun i => (i.zero, i.size, i.bytes)) = some (some (.int .i64 0), 1, 8) := by kernel_rfl
theorem info4 : (Try.prog.info? 4).map (fun i => (i.zero, i.size, i.bytes)) = some (some (.bool false), 1, 1) := by kernel_rfl
theorem info36 : (Try.prog.info? 36).map (fun i => (i.zero, i.size, i.bytes)) = some (some (.agg #[(.int .i64 0), (.slice none 0 0), (.slice none 0 0)]), 3, 56) := by kernel_rfl
theorem info41 : (Try.prog.info? 41).map (fun i => (i.zero, i.size, i.bytes)) = some (some (.agg #[(.int .i64 0), (.int .i64 0), (.int .i64 0), (.slice none 0 0), (.slice none 0 0), (.int .i64 0)]), 6, 80) := by kernel_rfl
theorem info45 : (Try.prog.info? 45).map (fun i => (i.zero, i.size, i.bytes)) = some (some (.agg #[(.int .i64 0), (.int .i64 0), (.int .i64 0)]), 3, 24) := by kernel_rfl
theorem info47 : (Try.prog.info? 47).map (fun i => (i.zero, i.size, i.bytes)) = some (some (.agg #[(.int .i64 0), (.int .i64 0), (.int .i64 0), (.int .i64 0), (.int .i64 0), (.int .i64 0), (.int .i64 0), (.int .i64 0), (.bool false), (.slice none 0 0), (.slice none 0 0)]), 11, 120) := by kernel_rfl
theorem info70 : (Try.prog.info? 70).map (fun i => (i.zero, i.size, i.bytes)) = some (some (.agg #[(.int .i64 0), (.int .i64 0), (.int .i64 0), (.slice none 0 0), (.slice none 0 0), (.int .i64 0), (.slice none 0 0), (.slice none 0 0), (.slice none 0 0)]), 9, 152) := by kernel_rfl
-- the values' own types
structure S45 where
  f0 : Int
  f1 : Int
  f2 : Int
def z45 : S45 := ⟨(0 : Int), (0 : Int), (0 : Int)⟩
def k45 : Kd S45 := Kd.iso (Kd.pair (Kd.int .i64) (Kd.pair (Kd.int .i64) (Kd.int .i64))) (fun x : S45 => (x.f0, x.f1, x.f2))
theorem k45_open {w : World} {x : S45} {cs : List Value} (h : k45.K w x cs) : cs = [.int .i64 x.f0, .int .i64 x.f1, .int .i64 x.f2] := by
  obtain ⟨_, _, rfl, rfl, ⟨_, _, rfl, rfl, rfl⟩⟩ := h
  exact rfl
theorem k45_mk (w : World) (x : S45)  : k45.K w x [.int .i64 x.f0, .int .i64 x.f1, .int .i64 x.f2] := ⟨[.int .i64 x.f0], [.int .i64 x.f1, .int .i64 x.f2], rfl, rfl, ⟨[.int .i64 x.f1], [.int .i64 x.f2], rfl, rfl, rfl⟩⟩
def rd_T45 (xs : List S45) (i : Int) : S45 := xs.getD i.toNat z45
theorem at_T45 {w : World} {A : Option Addr} {n : Nat} {xs : List S45} (h : Kd.C k45 w A n xs) (i : Int) (h0 : 0 ≤ i) (h1 : i < n) : ∃ ad , A = some ad ∧ w.cell? (ad.add (i.toNat * 3)) = some (.int .i64 (rd_T45 xs i).f0) ∧ w.cell? ⟨(ad.add (i.toNat * 3)).block, (ad.add (i.toNat * 3)).off + 1, none⟩ = some (.int .i64 (rd_T45 xs i).f1) ∧ w.cell? ⟨(ad.add (i.toNat * 3)).block, (ad.add (i.toNat * 3)).off + 2, none⟩ = some (.int .i64 (rd_T45 xs i).f2) := by
  obtain ⟨ad, c, e, _, hK, hc0⟩ := Kd.C_get h z45 i h0 h1
  have hc : ∀ j u, c[j]? = some u → w.cell? (ad.add (i.toNat * 3 + j)) = some u := hc0
  obtain rfl := k45_open hK
  exact ⟨ad, e, hc 0 _ rfl, by rw [← add_field _ _ 1 (by omega)]; exact hc 1 _ rfl, by rw [← add_field _ _ 2 (by omega)]; exact hc 2 _ rfl⟩

structure S47 where
  f0 : Int
  f1 : Int
  f2 : Int
  f3 : Int
  f4 : Int
  f5 : S45
  f6 : Bool
  f7 : (List Int)
  f8 : (List Int)
def z47 : S47 := ⟨(0 : Int), (0 : Int), (0 : Int), (0 : Int), (0 : Int), z45, false, ([] : List Int), ([] : List Int)⟩
def k47 : Kd S47 := Kd.iso (Kd.pair (Kd.int .i64) (Kd.pair (Kd.int .i64) (Kd.pair (Kd.int .i64) (Kd.pair (Kd.int .i64) (Kd.pair (Kd.int .i64) (Kd.pair k45 (Kd.pair Kd.bool (Kd.pair (Kd.slice 3 (Kd.int .i64)) (Kd.slice 3 (Kd.int .i64)))))))))) (fun x : S47 => (x.f0, x.f1, x.f2, x.f3, x.f4, x.f5, x.f6, x.f7, x.f8))
theorem k47_open {w : World} {x : S47} {cs : List Value} (h : k47.K w x cs) : ∃ A9 c9 A10 c10, cs = [.int .i64 x.f0, .int .i64 x.f1, .int .i64 x.f2, .int .i64 x.f3, .int .i64 x.f4, .int .i64 x.f5.f0, .int .i64 x.f5.f1, .int .i64 x.f5.f2, .bool x.f6, .slice A9 x.f7.length c9, .slice A10 x.f8.length c10] ∧ x.f7.length ≤ c9 ∧ (Kd.int .i64).C w A9 x.f7.length x.f7 ∧ x.f8.length ≤ c10 ∧ (Kd.int .i64).C w A10 x.f8.length x.f8 := by
  obtain ⟨_, _, rfl, rfl, ⟨_, _, rfl, rfl, ⟨_, _, rfl, rfl, ⟨_, _, rfl, rfl, ⟨_, _, rfl, rfl, ⟨_, _, rfl, s5, ⟨_, _, rfl, rfl, ⟨_, _, rfl, ⟨A9, c9, rfl, l9, g9⟩, ⟨A10, c10, rfl, l10, g10⟩⟩⟩⟩⟩⟩⟩⟩⟩ := h
  obtain rfl := k45_open s5
  exact ⟨A9, c9, A10, c10, rfl, l9, g9, l10, g10⟩
theorem k47_mk (w : World) (x : S47) {A9 : Option Addr} {c9 : Nat} (l9 : x.f7.length ≤ c9) (g9 : (Kd.int .i64).C w A9 x.f7.length x.f7) {A10 : Option Addr} {c10 : Nat} (l10 : x.f8.length ≤ c10) (g10 : (Kd.int .i64).C w A10 x.f8.length x.f8) : k47.K w x [.int .i64 x.f0, .int .i64 x.f1, .int .i64 x.f2, .int .i64 x.f3, .int .i64 x.f4, .int .i64 x.f5.f0, .int .i64 x.f5.f1, .int .i64 x.f5.f2, .bool x.f6, .slice A9 x.f7.length c9, .slice A10 x.f8.length c10] := ⟨[.int .i64 x.f0], [.int .i64 x.f1, .int .i64 x.f2, .int .i64 x.f3, .int .i64 x.f4, .int .i64 x.f5.f0, .int .i64 x.f5.f1, .int .i64 x.f5.f2, .bool x.f6, .slice A9 x.f7.length c9, .slice A10 x.f8.length c10], rfl, rfl, ⟨[.int .i64 x.f1], [.int .i64 x.f2, .int .i64 x.f3, .int .i64 x.f4, .int .i64 x.f5.f0, .int .i64 x.f5.f1, .int .i64 x.f5.f2, .bool x.f6, .slice A9 x.f7.length c9, .slice A10 x.f8.length c10], rfl, rfl, ⟨[.int .i64 x.f2], [.int .i64 x.f3, .int .i64 x.f4, .int .i64 x.f5.f0, .int .i64 x.f5.f1, .int .i64 x.f5.f2, .bool x.f6, .slice A9 x.f7.length c9, .slice A10 x.f8.length c10], rfl, rfl, ⟨[.int .i64 x.f3], [.int .i64 x.f4, .int .i64 x.f5.f0, .int .i64 x.f5.f1, .int .i64 x.f5.f2, .bool x.f6, .slice A9 x.f7.length c9, .slice A10 x.f8.length c10], rfl, rfl, ⟨[.int .i64 x.f4], [.int .i64 x.f5.f0, .int .i64 x.f5.f1, .int .i64 x.f5.f2, .bool x.f6, .slice A9 x.f7.length c9, .slice A10 x.f8.length c10], rfl, rfl, ⟨[.int .i64 x.f5.f0, .int .i64 x.f5.f1, .int .i64 x.f5.f2], [.bool x.f6, .slice A9 x.f7.length c9, .slice A10 x.f8.length c10], rfl, (k45_mk w x.f5 ), ⟨[.bool x.f6], [.slice A9 x.f7.length c9, .slice A10 x.f8.length c10], rfl, rfl, ⟨[.slice A9 x.f7.length c9], [.slice A10 x.f8.length c10], rfl, ⟨A9, c9, rfl, l9, g9⟩, ⟨A10, c10, rfl, l10, g10⟩⟩⟩⟩⟩⟩⟩⟩⟩
def rd_T47 (xs : List S47) (i : Int) : S47 := xs.getD i.toNat z47
theorem at_T47 {w : World} {A : Option Addr} {n : Nat} {xs : List S47} (h : Kd.C k47 w A n xs) (i : Int) (h0 : 0 ≤ i) (h1 : i < n) : ∃ ad A9 c9 A10 c10, A = some ad ∧ w.cell? (ad.add (i.toNat * 11)) = some (.int .i64 (rd_T47 xs i).f0) ∧ w.cell? ⟨(ad.add (i.toNat * 11)).block, (ad.add (i.toNat * 11)).off + 1, none⟩ = some (.int .i64 (rd_T47 xs i).f1) ∧ w.cell? ⟨(ad.add (i.toNat * 11)).block, (ad.add (i.toNat * 11)).off + 2, none⟩ = some (.int .i64 (rd_T47 xs i).f2) ∧ w.cell? ⟨(ad.add (i.toNat * 11)).block, (ad.add (i.toNat * 11)).off + 3, none⟩ = some (.int .i64 (rd_T47 xs i).f3) ∧ w.cell? ⟨(ad.add (i.toNat * 11)).block, (ad.add (i.toNat * 11)).off + 4, none⟩ = some (.int .i64 (rd_T47 xs i).f4) ∧ w.cell? ⟨(ad.add (i.toNat * 11)).block, (ad.add (i.toNat * 11)).off + 5, none⟩ = some (.int .i64 (rd_T47 xs i).f5.f0) ∧ w.cell? ⟨(ad.add (i.toNat * 11)).block, (ad.add (i.toNat * 11)).off + 6, none⟩ = some (.int .i64 (rd_T47 xs i).f5.f1) ∧ w.cell? ⟨(ad.add (i.toNat * 11)).block, (ad.add (i.toNat * 11)).off + 7, none⟩ = some (.int .i64 (rd_T47 xs i).f5.f2) ∧ w.cell? ⟨(ad.add (i.toNat * 11)).block, (ad.add (i.toNat * 11)).off + 8, none⟩ = some (.bool (rd_T47 xs i).f6) ∧ w.cell? ⟨(ad.add (i.toNat * 11)).block, (ad.add (i.toNat * 11)).off + 9, none⟩ = some (.slice A9 (rd_T47 xs i).f7.length c9) ∧ w.cell? ⟨(ad.add (i.toNat * 11)).block, (ad.add (i.toNat * 11)).off + 10, none⟩ = some (.slice A10 (rd_T47 xs i).f8.length c10) ∧ (rd_T47 xs i).f7.length ≤ c9 ∧ (Kd.int .i64).C w A9 (rd_T47 xs i).f7.length (rd_T47 xs i).f7 ∧ (rd_T47 xs i).f8.length ≤ c10 ∧ (Kd.int .i64).C w A10 (rd_T47 xs i).f8.length (rd_T47 xs i).f8 := by
  obtain ⟨ad, c, e, _, hK, hc0⟩ := Kd.C_get h z47 i h0 h1
  have hc : ∀ j u, c[j]? = some u → w.cell? (ad.add (i.toNat * 11 + j)) = some u := hc0
  obtain ⟨A9, c9, A10, c10, rfl, l9, g9, l10, g10⟩ := k47_open hK
  exact ⟨ad, A9, c9, A10, c10, e, hc 0 _ rfl, by rw [← add_field _ _ 1 (by omega)]; exact hc 1 _ rfl, by rw [← add_field _ _ 2 (by omega)]; exact hc 2 _ rfl, by rw [← add_field _ _ 3 (by omega)]; exact hc 3 _ rfl, by rw [← add_field _ _ 4 (by omega)]; exact hc 4 _ rfl, by rw [← add_field _ _ 5 (by omega)]; exact hc 5 _ rfl, by rw [← add_field _ _ 6 (by omega)]; exact hc 6 _ rfl, by rw [← add_field _ _ 7 (by omega)]; exact hc 7 _ rfl, by rw [← add_field _ _ 8 (by omega)]; exact hc 8 _ rfl, by rw [← add_field _ _ 9 (by omega)]; exact hc 9 _ rfl, by rw [← add_field _ _ 10 (by omega)]; exact hc 10 _ rfl, l9, g9, l10, g10⟩

structure S36 where
  f0 : Int
  f1 : (List S45)
  f2 : (List Bool)
def z36 : S36 := ⟨(0 : Int), ([] : List S45), ([] : List Bool)⟩
def k36 : Kd S36 := Kd.iso (Kd.pair (Kd.int .i64) (Kd.pair (Kd.slice 45 k45) (Kd.slice 4 Kd.bool))) (fun x : S36 => (x.f0, x.f1, x.f2))
theorem k36_open {w : World} {x : S36} {cs : List Value} (h : k36.K w x cs) : ∃ A1 c1 A2 c2, cs = [.int .i64 x.f0, .slice A1 x.f1.length c1, .slice A2 x.f2.length c2] ∧ x.f1.length ≤ c1 ∧ k45.C w A1 x.f1.length x.f1 ∧ x.f2.length ≤ c2 ∧ Kd.bool.C w A2 x.f2.length x.f2 := by
  obtain ⟨_, _, rfl, rfl, ⟨_, _, rfl, ⟨A1, c1, rfl, l1, g1⟩, ⟨A2, c2, rfl, l2, g2⟩⟩⟩ := h
  exact ⟨A1, c1, A2, c2, rfl, l1, g1, l2, g2⟩
theorem k36_mk (w : World) (x : S36) {A1 : Option Addr} {c1 : Nat} (l1 : x.f1.length ≤ c1) (g1 : k45.C w A1 x.f1.length x.f1) {A2 : Option Addr} {c2 : Nat} (l2 : x.f2.length ≤ c2) (g2 : Kd.bool.C w A2 x.f2.length x.f2) : k36.K w x [.int .i64 x.f0, .slice A1 x.f1.length c1, .slice A2 x.f2.length c2] := ⟨[.int .i64 x.f0], [.slice A1 x.f1.length c1, .slice A2 x.f2.length c2], rfl, rfl, ⟨[.slice A1 x.f1.length c1], [.slice A2 x.f2.length c2], rfl, ⟨A1, c1, rfl, l1, g1⟩, ⟨A2, c2, rfl, l2, g2⟩⟩⟩
def rd_T36 (xs : List S36) (i : Int) : S36 := xs.getD i.toNat z36
theorem at_T36 {w : World} {A : Option Addr} {n : Nat} {xs : List S36} (h : Kd.C k36 w A n xs) (i : Int) (h0 : 0 ≤ i) (h1 : i < n) : ∃ ad A1 c1 A2 c2, A = some ad ∧ w.cell? (ad.add (i.toNat * 3)) = some (.int .i64 (rd_T36 xs i).f0) ∧ w.cell? ⟨(ad.add (i.toNat * 3)).block, (ad.add (i.toNat * 3)).off + 1, none⟩ = some (.slice A1 (rd_T36 xs i).f1.length c1) ∧ w.cell? ⟨(ad.add (i.toNat * 3)).block, (ad.add (i.toNat * 3)).off + 2, none⟩ = some (.slice A2 (rd_T36 xs i).f2.length c2) ∧ (rd_T36 xs i).f1.length ≤ c1 ∧ k45.C w A1 (rd_T36 xs i).f1.length (rd_T36 xs i).f1 ∧ (rd_T36 xs i).f2.length ≤ c2 ∧ Kd.bool.C w A2 (rd_T36 xs i).f2.length (rd_T36 xs i).f2 := by
  obtain ⟨ad, c, e, _, hK, hc0⟩ := Kd.C_get h z36 i h0 h1
  have hc : ∀ j u, c[j]? = some u → w.cell? (ad.add (i.toNat * 3 + j)) = some u := hc0
  obtain ⟨A1, c1, A2, c2, rfl, l1, g1, l2, g2⟩ := k36_open hK
  exact ⟨ad, A1, c1, A2, c2, e, hc 0 _ rfl, by rw [← add_field _ _ 1 (by omega)]; exact hc 1 _ rfl, by rw [← add_field _ _ 2 (by omega)]; exact hc 2 _ rfl, l1, g1, l2, g2⟩

structure S41 where
  f0 : Int
  f1 : Int
  f2 : Int
  f3 : (List Int)
  f4 : (List Int)
  f5 : Int
def z41 : S41 := ⟨(0 : Int), (0 : Int), (0 : Int), ([] : List Int), ([] : List Int), (0 : Int)⟩
def k41 : Kd S41 := Kd.iso (Kd.pair (Kd.int .i64) (Kd.pair (Kd.int .i64) (Kd.pair (Kd.int .i64) (Kd.pair (Kd.slice 3 (Kd.int .i64)) (Kd.pair (Kd.slice 3 (Kd.int .i64)) (Kd.int .i64)))))) (fun x : S41 => (x.f0, x.f1, x.f2, x.f3, x.f4, x.f5))
theorem k41_open {w : World} {x : S41} {cs : List Value} (h : k41.K w x cs) : ∃ A3 c3 A4 c4, cs = [.int .i64 x.f0, .int .i64 x.f1, .int .i64 x.f2, .slice A3 x.f3.length c3, .slice A4 x.f4.length c4, .int .i64 x.f5] ∧ x.f3.length ≤ c3 ∧ (Kd.int .i64).C w A3 x.f3.length x.f3 ∧ x.f4.length ≤ c4 ∧ (Kd.int .i64).C w A4 x.f4.length x.f4 := by
  obtain ⟨_, _, rfl, rfl, ⟨_, _, rfl, rfl, ⟨_, _, rfl, rfl, ⟨_, _, rfl, ⟨A3, c3, rfl, l3, g3⟩, ⟨_, _, rfl, ⟨A4, c4, rfl, l4, g4⟩, rfl⟩⟩⟩⟩⟩ := h
  exact ⟨A3, c3, A4, c4, rfl, l3, g3, l4, g4⟩
theorem k41_mk (w : World) (x : S41) {A3 : Option Addr} {c3 : Nat} (l3 : x.f3.length ≤ c3) (g3 : (Kd.int .i64).C w A3 x.f3.length x.f3) {A4 : Option Addr} {c4 : Nat} (l4 : x.f4.length ≤ c4) (g4 : (Kd.int .i64).C w A4 x.f4.length x.f4) : k41.K w x [.int .i64 x.f0, .int .i64 x.f1, .int .i64 x.f2, .slice A3 x.f3.length c3, .slice A4 x.f4.length c4, .int .i64 x.f5] := ⟨[.int .i64 x.f0], [.int .i64 x.f1, .int .i64 x.f2, .slice A3 x.f3.length c3, .slice A4 x.f4.length c4, .int .i64 x.f5], rfl, rfl, ⟨[.int .i64 x.f1], [.int .i64 x.f2, .slice A3 x.f3.length c3, .slice A4 x.f4.length c4, .int .i64 x.f5], rfl, rfl, ⟨[.int .i64 x.f2], [.slice A3 x.f3.length c3, .slice A4 x.f4.length c4, .int .i64 x.f5], rfl, rfl, ⟨[.slice A3 x.f3.length c3], [.slice A4 x.f4.length c4, .int .i64 x.f5], rfl, ⟨A3, c3, rfl, l3, g3⟩, ⟨[.slice A4 x.f4.length c4], [.int .i64 x.f5], rfl, ⟨A4, c4, rfl, l4, g4⟩, rfl⟩⟩⟩⟩⟩
def rd_T41 (xs : List S41) (i : Int) : S41 := xs.getD i.toNat z41
theorem at_T41 {w : World} {A : Option Addr} {n : Nat} {xs : List S41} (h : Kd.C k41 w A n xs) (i : Int) (h0 : 0 ≤ i) (h1 : i < n) : ∃ ad A3 c3 A4 c4, A = some ad ∧ w.cell? (ad.add (i.toNat * 6)) = some (.int .i64 (rd_T41 xs i).f0) ∧ w.cell? ⟨(ad.add (i.toNat * 6)).block, (ad.add (i.toNat * 6)).off + 1, none⟩ = some (.int .i64 (rd_T41 xs i).f1) ∧ w.cell? ⟨(ad.add (i.toNat * 6)).block, (ad.add (i.toNat * 6)).off + 2, none⟩ = some (.int .i64 (rd_T41 xs i).f2) ∧ w.cell? ⟨(ad.add (i.toNat * 6)).block, (ad.add (i.toNat * 6)).off + 3, none⟩ = some (.slice A3 (rd_T41 xs i).f3.length c3) ∧ w.cell? ⟨(ad.add (i.toNat * 6)).block, (ad.add (i.toNat * 6)).off + 4, none⟩ = some (.slice A4 (rd_T41 xs i).f4.length c4) ∧ w.cell? ⟨(ad.add (i.toNat * 6)).block, (ad.add (i.toNat * 6)).off + 5, none⟩ = some (.int .i64 (rd_T41 xs i).f5) ∧ (rd_T41 xs i).f3.length ≤ c3 ∧ (Kd.int .i64).C w A3 (rd_T41 xs i).f3.length (rd_T41 xs i).f3 ∧ (rd_T41 xs i).f4.length ≤ c4 ∧ (Kd.int .i64).C w A4 (rd_T41 xs i).f4.length (rd_T41 xs i).f4 := by
  obtain ⟨ad, c, e, _, hK, hc0⟩ := Kd.C_get h z41 i h0 h1
  have hc : ∀ j u, c[j]? = some u → w.cell? (ad.add (i.toNat * 6 + j)) = some u := hc0
  obtain ⟨A3, c3, A4, c4, rfl, l3, g3, l4, g4⟩ := k41_open hK
  exact ⟨ad, A3, c3, A4, c4, e, hc 0 _ rfl, by rw [← add_field _ _ 1 (by omega)]; exact hc 1 _ rfl, by rw [← add_field _ _ 2 (by omega)]; exact hc 2 _ rfl, by rw [← add_field _ _ 3 (by omega)]; exact hc 3 _ rfl, by rw [← add_field _ _ 4 (by omega)]; exact hc 4 _ rfl, by rw [← add_field _ _ 5 (by omega)]; exact hc 5 _ rfl, l3, g3, l4, g4⟩

structure S29 where
  f0 : (List S36)
  f1 : (List S41)
  f2 : Int
structure S70 where
  f0 : S41
  f1 : (List Int)
  f2 : (List Int)
  f3 : (List Int)
def z70 : S70 := ⟨z41, ([] : List Int), ([] : List Int), ([] : List Int)⟩
def k70 : Kd S70 := Kd.iso (Kd.pair k41 (Kd.pair (Kd.slice 3 (Kd.int .i64)) (Kd.pair (Kd.slice 3 (Kd.int .i64)) (Kd.slice 3 (Kd.int .i64))))) (fun x : S70 => (x.f0, x.f1, x.f2, x.f3))
theorem k70_open {w : World} {x : S70} {cs : List Value} (h : k70.K w x cs) : ∃ A3 c3 A4 c4 A6 c6 A7 c7 A8 c8, cs = [.int .i64 x.f0.f0, .int .i64 x.f0.f1, .int .i64 x.f0.f2, .slice A3 x.f0.f3.length c3, .slice A4 x.f0.f4.length c4, .int .i64 x.f0.f5, .slice A6 x.f1.length c6, .slice A7 x.f2.length c7, .slice A8 x.f3.length c8] ∧ x.f0.f3.length ≤ c3 ∧ (Kd.int .i64).C w A3 x.f0.f3.length x.f0.f3 ∧ x.f0.f4.length ≤ c4 ∧ (Kd.int .i64).C w A4 x.f0.f4.length x.f0.f4 ∧ x.f1.length ≤ c6 ∧ (Kd.int .i64).C w A6 x.f1.length x.f1 ∧ x.f2.length ≤ c7 ∧ (Kd.int .i64).C w A7 x.f2.length x.f2 ∧ x.f3.length ≤ c8 ∧ (Kd.int .i64).C w A8 x.f3.length x.f3 := by
  obtain ⟨_, _, rfl, s0, ⟨_, _, rfl, ⟨A6, c6, rfl, l6, g6⟩, ⟨_, _, rfl, ⟨A7, c7, rfl, l7, g7⟩, ⟨A8, c8, rfl, l8, g8⟩⟩⟩⟩ := h
  obtain ⟨A3, c3, A4, c4, rfl, l3, g3, l4, g4⟩ := k41_open s0
  exact ⟨A3, c3, A4, c4, A6, c6, A7, c7, A8, c8, rfl, l3, g3, l4, g4, l6, g6, l7, g7, l8, g8⟩
theorem k70_mk (w : World) (x : S70) {A3 : Option Addr} {c3 : Nat} (l3 : x.f0.f3.length ≤ c3) (g3 : (Kd.int .i64).C w A3 x.f0.f3.length x.f0.f3) {A4 : Option Addr} {c4 : Nat} (l4 : x.f0.f4.length ≤ c4) (g4 : (Kd.int .i64).C w A4 x.f0.f4.length x.f0.f4) {A6 : Option Addr} {c6 : Nat} (l6 : x.f1.length ≤ c6) (g6 : (Kd.int .i64).C w A6 x.f1.length x.f1) {A7 : Option Addr} {c7 : Nat} (l7 : x.f2.length ≤ c7) (g7 : (Kd.int .i64).C w A7 x.f2.length x.f2) {A8 : Option Addr} {c8 : Nat} (l8 : x.f3.length ≤ c8) (g8 : (Kd.int .i64).C w A8 x.f3.length x.f3) : k70.K w x [.int .i64 x.f0.f0, .int .i64 x.f0.f1, .int .i64 x.f0.f2, .slice A3 x.f0.f3.length c3, .slice A4 x.f0.f4.length c4, .int .i64 x.f0.f5, .slice A6 x.f1.length c6, .slice A7 x.f2.length c7, .slice A8 x.f3.length c8] := ⟨[.int .i64 x.f0.f0, .int .i64 x.f0.f1, .int .i64 x.f0.f2, .slice A3 x.f0.f3.length c3, .slice A4 x.f0.f4.length c4, .int .i64 x.f0.f5], [.slice A6 x.f1.length c6, .slice A7 x.f2.length c7, .slice A8 x.f3.length c8], rfl, (k41_mk w x.f0 l3 g3 l4 g4), ⟨[.slice A6 x.f1.length c6], [.slice A7 x.f2.length c7, .slice A8 x.f3.length c8], rfl, ⟨A6, c6, rfl, l6, g6⟩, ⟨[.slice A7 x.f2.length c7], [.slice A8 x.f3.length c8], rfl, ⟨A7, c7, rfl, l7, g7⟩, ⟨A8, c8, rfl, l8, g8⟩⟩⟩⟩
def rd_T70 (xs : List S70) (i : Int) : S70 := xs.getD i.toNat z70
theorem at_T70 {w : World} {A : Option Addr} {n : Nat} {xs : List S70} (h : Kd.C k70 w A n xs) (i : Int) (h0 : 0 ≤ i) (h1 : i < n) : ∃ ad A3 c3 A4 c4 A6 c6 A7 c7 A8 c8, A = some ad ∧ w.cell? (ad.add (i.toNat * 9)) = some (.int .i64 (rd_T70 xs i).f0.f0) ∧ w.cell? ⟨(ad.add (i.toNat * 9)).block, (ad.add (i.toNat * 9)).off + 1, none⟩ = some (.int .i64 (rd_T70 xs i).f0.f1) ∧ w.cell? ⟨(ad.add (i.toNat * 9)).block, (ad.add (i.toNat * 9)).off + 2, none⟩ = some (.int .i64 (rd_T70 xs i).f0.f2) ∧ w.cell? ⟨(ad.add (i.toNat * 9)).block, (ad.add (i.toNat * 9)).off + 3, none⟩ = some (.slice A3 (rd_T70 xs i).f0.f3.length c3) ∧ w.cell? ⟨(ad.add (i.toNat * 9)).block, (ad.add (i.toNat * 9)).off + 4, none⟩ = some (.slice A4 (rd_T70 xs i).f0.f4.length c4) ∧ w.cell? ⟨(ad.add (i.toNat * 9)).block, (ad.add (i.toNat * 9)).off + 5, none⟩ = some (.int .i64 (rd_T70 xs i).f0.f5) ∧ w.cell? ⟨(ad.add (i.toNat * 9)).block, (ad.add (i.toNat * 9)).off + 6, none⟩ = some (.slice A6 (rd_T70 xs i).f1.length c6) ∧ w.cell? ⟨(ad.add (i.toNat * 9)).block, (ad.add (i.toNat * 9)).off + 7, none⟩ = some (.slice A7 (rd_T70 xs i).f2.length c7) ∧ w.cell? ⟨(ad.add (i.toNat * 9)).block, (ad.add (i.toNat * 9)).off + 8, none⟩ = some (.slice A8 (rd_T70 xs i).f3.length c8) ∧ (rd_T70 xs i).f0.f3.length ≤ c3 ∧ (Kd.int .i64).C w A3 (rd_T70 xs i).f0.f3.length (rd_T70 xs i).f0.f3 ∧ (rd_T70 xs i).f0.f4.length ≤ c4 ∧ (Kd.int .i64).C w A4 (rd_T70 xs i).f0.f4.length (rd_T70 xs i).f0.f4 ∧ (rd_T70 xs i).f1.length ≤ c6 ∧ (Kd.int .i64).C w A6 (rd_T70 xs i).f1.length (rd_T70 xs i).f1 ∧ (rd_T70 xs i).f2.length ≤ c7 ∧ (Kd.int .i64).C w A7 (rd_T70 xs i).f2.length (rd_T70 xs i).f2 ∧ (rd_T70 xs i).f3.length ≤ c8 ∧ (Kd.int .i64).C w A8 (rd_T70 xs i).f3.length (rd_T70 xs i).f3 := by
  obtain ⟨ad, c, e, _, hK, hc0⟩ := Kd.C_get h z70 i h0 h1
  have hc : ∀ j u, c[j]? = some u → w.cell? (ad.add (i.toNat * 9 + j)) = some u := hc0
  obtain ⟨A3, c3, A4, c4, A6, c6, A7, c7, A8, c8, rfl, l3, g3, l4, g4, l6, g6, l7, g7, l8, g8⟩ := k70_open hK
  exact ⟨ad, A3, c3, A4, c4, A6, c6, A7, c7, A8, c8, e, hc 0 _ rfl, by rw [← add_field _ _ 1 (by omega)]; exact hc 1 _ rfl, by rw [← add_field _ _ 2 (by omega)]; exact hc 2 _ rfl, by rw [← add_field _ _ 3 (by omega)]; exact hc 3 _ rfl, by rw [← add_field _ _ 4 (by omega)]; exact hc 4 _ rfl, by rw [← add_field _ _ 5 (by omega)]; exact hc 5 _ rfl, by rw [← add_field _ _ 6 (by omega)]; exact hc 6 _ rfl, by rw [← add_field _ _ 7 (by omega)]; exact hc 7 _ rfl, by rw [← add_field _ _ 8 (by omega)]; exact hc 8 _ rfl, l3, g3, l4, g4, l6, g6, l7, g7, l8, g8⟩

end Go.Proofs.Ytmnglonjekegcaa.Rp
