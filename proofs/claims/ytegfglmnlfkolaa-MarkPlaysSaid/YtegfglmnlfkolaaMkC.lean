/- The times: what a slice of them holds. -/
import Derived.Test.YtegfglmnlfkolaaMkB
import Derived.Test.YtegfglmnlfkolaaMkP2
import Derived.Test.YtegfglmnlfkolaaOpn
namespace Go.Proofs.Ytegfglmnlfkolaa.Mk
open Go Go.RowKit Go.Maps Go.Proofs.YtegfglmnlfkolaaW.PrintWords Go.Proofs.YtegfglmnlfkolaaW.PrintLast Go.Proofs.YtegfglmnlfkolaaW.PrintMore Go.Proofs.Ytegfglmnlfkolaa.Opn
set_option linter.unusedVariables false
set_option linter.unusedSimpArgs false
def kSeen : Kd (Int × Int) := Kd.pair (Kd.int .i64) (Kd.int .i64)
def GSeen {H : Type} : Int × Int → DataW H → Prop := GAgg (GCons (GInt .i64) (GOne (GInt .i64)))
theorem opens_seen {H : Type} {enc : TypeId × Value → H} : Opens enc Try.prog (Kd.slice 32 kSeen) 22 (GSlice GSeen) :=
  opens_slice Try.underlying22 (opens_struct Try.underlying32 rfl (by kernel_rfl) (opensF_cons (off' := 1) rfl (by kernel_rfl) rfl (opens_int Try.underlying3) (opensF_one rfl (by kernel_rfl) (opens_int Try.underlying2)))) (by kernel_rfl)
/-- The numbers in them are numbers of 64 bits. -/
abbrev In64 (n : Int) : Prop := -9223372036854775808 ≤ n ∧ n ≤ 9223372036854775807
theorem seen_wf {H : Type} {l : List (Int × Int)} {x : DataW H} (h : GSlice GSeen l x) : ∀ p ∈ l, In64 p.1 ∧ In64 p.2 := by
  obtain ⟨_, h⟩ := h
  rcases h with ⟨rfl, _⟩ | ⟨ds, rest, _, hl, h⟩
  · intro p hp; cases hp
  · intro p hp
    obtain ⟨i, hi, rfl⟩ := List.getElem_of_mem hp
    obtain ⟨_, _, _, r, _, ⟨_, h1⟩, _, _, _, h2⟩ := h i _ _ (List.getElem?_eq_getElem hi) (List.getElem?_eq_getElem (by omega))
    exact ⟨wfr_i64 h1, wfr_i64 h2⟩
def pt (l : List (Int × Int)) (k : Nat) : Int × Int := l.getD k (0, 0)
theorem pt_mem {l : List (Int × Int)} {k : Nat} (h : k < l.length) : pt l k ∈ l := by
  unfold pt
  rw [List.getD_eq_getElem?_getD, List.getElem?_eq_getElem h]
  exact List.getElem_mem _
theorem at_seen {w : World} {A : Option Addr} {n : Nat} {l : List (Int × Int)} (h : kSeen.C w A n l) {k : Nat} (hk : k < l.length) :
    ∃ ad, A = some ad ∧ w.cell? (ad.add (k * 2)) = some (.int .i64 (pt l k).1) ∧ w.cell? ⟨(ad.add (k * 2)).block, (ad.add (k * 2)).off + 1, none⟩ = some (.int .i64 (pt l k).2) := by
  obtain ⟨ad, e, hc⟩ := h.2.2 (by have := h.1; omega)
  obtain ⟨c, hs, ⟨c0, c1, rfl, h0, h1⟩, hcell⟩ := hc k _ (List.getElem?_eq_getElem hk)
  have h0' : c0 = [Value.int .i64 (l[k]).1] := h0
  have h1' : c1 = [Value.int .i64 (l[k]).2] := h1
  subst h0'
  subst h1'
  have e2 : pt l k = l[k] := by unfold pt; rw [List.getD_eq_getElem?_getD, List.getElem?_eq_getElem hk]; rfl
  rw [e2]
  refine ⟨ad, e, hcell 0 _ rfl, ?_⟩
  have h3 : w.cell? (ad.add (k * 2 + 1)) = _ := hcell 1 _ rfl
  rw [show ad.add (k * 2 + 1) = (ad.add (k * 2)).add 1 from (Opn.add_add ad (k * 2) 1).symm] at h3
  exact h3
theorem seeAll_take {L l : List (Int × Int)} {k : Nat} (h : k < l.length) : seeAll L (l.take (k + 1)) = (see (seeAll L (l.take k)) (pt l k).1 (pt l k).2).1 := by
  rw [List.take_succ_eq_append_getElem h, seeAll_snoc]
  have e2 : pt l k = l[k] := by unfold pt; rw [List.getD_eq_getElem?_getD, List.getElem?_eq_getElem h]; rfl
  rw [e2]
theorem pt_reverse {l : List (Int × Int)} {k : Nat} (h : k < l.length) : pt l.reverse k = pt l (l.length - 1 - k) := by
  unfold pt
  rw [List.getD_eq_getElem?_getD, List.getD_eq_getElem?_getD, List.getElem?_reverse h]
end Go.Proofs.Ytegfglmnlfkolaa.Mk
