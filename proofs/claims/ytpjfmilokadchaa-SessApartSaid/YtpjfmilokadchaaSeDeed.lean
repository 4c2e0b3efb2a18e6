/- (c14) Deeds: what a slice of them holds. -/
import Derived.Test.YtpjfmilokadchaaSeOrdW
import Derived.Test.YtpjfmilokadchaaOpn
namespace Go.Proofs.Ytpjfmilokadchaa.Se
open Go Go.RowKit Go.Proofs.YtpjfmilokadchaaW.PrintWords Go.Proofs.YtpjfmilokadchaaW.PrintLast Go.Proofs.YtpjfmilokadchaaW.PrintMore Go.Proofs.Ytpjfmilokadchaa.Rw Go.Proofs.Ytpjfmilokadchaa.Ex Go.Proofs.Ytpjfmilokadchaa.Opn
set_option linter.unusedVariables false
set_option linter.unusedSimpArgs false
abbrev Chg5 := Int × Int × Int × Int × Bool
abbrev Deed := Int × Int × Int × Int × Chg5
def kChg5 : Kd Chg5 := Kd.pair (Kd.int .i64) (Kd.pair (Kd.int .i64) (Kd.pair (Kd.int .i64) (Kd.pair (Kd.int .i64) Kd.bool)))
def kDeed : Kd Deed := Kd.pair (Kd.int .i64) (Kd.pair (Kd.int .i64) (Kd.pair (Kd.int .i64) (Kd.pair (Kd.int .i64) kChg5)))
def GChg {H : Type} : Chg5 → DataW H → Prop := GAgg (GCons (GInt .i64) (GCons (GInt .i64) (GCons (GInt .i64) (GCons (GInt .i64) (GOne GBool)))))
def GDeed {H : Type} : Deed → DataW H → Prop := GAgg (GCons (GInt .i64) (GCons (GInt .i64) (GCons (GInt .i64) (GCons (GInt .i64) (GOne GChg)))))
theorem opens_chg {H : Type} {enc : TypeId × Value → H} : Opens enc Try.prog kChg5 33 GChg :=
  opens_struct Try.underlying33 rfl (by kernel_rfl) (opensF_cons (off' := 1) rfl (by kernel_rfl) rfl (opens_int Try.underlying2) (opensF_cons (off' := 2) rfl (by kernel_rfl) rfl (opens_int Try.underlying2) (opensF_cons (off' := 3) rfl (by kernel_rfl) rfl (opens_int Try.underlying2)
    (opensF_cons (off' := 4) rfl (by kernel_rfl) rfl (opens_int Try.underlying2) (opensF_one rfl (by kernel_rfl) (opens_bool Try.underlying4))))))
theorem opens_deeds {H : Type} {enc : TypeId × Value → H} : Opens enc Try.prog (Kd.slice 35 kDeed) 22 (GSlice GDeed) :=
  opens_slice Try.underlying22 (opens_struct Try.underlying35 rfl (by kernel_rfl) (opensF_cons (off' := 1) rfl (by kernel_rfl) rfl (opens_int Try.underlying3) (opensF_cons (off' := 2) rfl (by kernel_rfl) rfl (opens_int Try.underlying2) (opensF_cons (off' := 3) rfl (by kernel_rfl) rfl (opens_int Try.underlying2) (opensF_cons (off' := 4) rfl (by kernel_rfl) rfl (opens_int Try.underlying2) (opensF_one rfl (by kernel_rfl) opens_chg)))))) (by kernel_rfl)
structure DOk (d : Deed) : Prop where
  kind : In64 d.1
  key : In64 d.2.1
  time : In64 d.2.2.1
  val : In64 d.2.2.2.1
theorem deeds_wf {H : Type} {l : List Deed} {x : DataW H} (h : GSlice GDeed l x) : ∀ d ∈ l, DOk d := by
  obtain ⟨_, h⟩ := h
  rcases h with ⟨rfl, _⟩ | ⟨ds, rest, _, hl, h⟩
  · intro p hp; cases hp
  · intro p hp
    obtain ⟨i, hi, rfl⟩ := List.getElem_of_mem hp
    obtain ⟨_, _, _, r, _, ⟨_, h1⟩, _, r2, _, ⟨_, h2⟩, _, r3, _, ⟨_, h3⟩, _, r4, _, ⟨_, h4⟩, _⟩ := h i _ _ (List.getElem?_eq_getElem hi) (List.getElem?_eq_getElem (by omega))
    exact ⟨wfs_i64 h1, wfs_i64 h2, wfs_i64 h3, wfs_i64 h4⟩
/-- A deed's kind, key, time, value. -/
theorem at_deed {w : World} {A : Option Addr} {n : Nat} {l : List Deed} (h : kDeed.C w A n l) {k : Nat} {d : Deed} (hk : l[k]? = some d) :
    ∃ ad, A = some ad ∧ w.cell? (ad.add (k * 9)) = some (.int .i64 d.1) ∧ w.cell? ⟨(ad.add (k * 9)).block, (ad.add (k * 9)).off + 1, none⟩ = some (.int .i64 d.2.1) ∧ w.cell? ⟨(ad.add (k * 9)).block, (ad.add (k * 9)).off + 2, none⟩ = some (.int .i64 d.2.2.1) ∧ w.cell? ⟨(ad.add (k * 9)).block, (ad.add (k * 9)).off + 3, none⟩ = some (.int .i64 d.2.2.2.1) := by
  have hlt := (List.getElem?_eq_some_iff.1 hk).1
  obtain ⟨ad, e, hc⟩ := h.2.2 (by have := h.1; omega)
  obtain ⟨c, hs, ⟨c0, c1, rfl, h0, c2, c3, rfl, h2, c4, c5, rfl, h4, c6, c7, rfl, h6, _⟩, hcell⟩ := hc k _ hk
  have h0' : c0 = [Value.int .i64 d.1] := h0
  have h2' : c2 = [Value.int .i64 d.2.1] := h2
  have h4' : c4 = [Value.int .i64 d.2.2.1] := h4
  have h6' : c6 = [Value.int .i64 d.2.2.2.1] := h6
  subst h0' h2' h4' h6'
  have g : ∀ i u, ([Value.int .i64 d.1] ++ ([Value.int .i64 d.2.1] ++ ([Value.int .i64 d.2.2.1] ++ ([Value.int .i64 d.2.2.2.1] ++ c7))))[i]? = some u → w.cell? ((ad.add (k * 9)).add i) = some u := fun i u hu => by rw [Opn.add_add]; exact hcell i u hu
  exact ⟨ad, e, hcell 0 _ rfl, g 1 _ rfl, g 2 _ rfl, g 3 _ rfl⟩
theorem putL_le (room g : Int) (L : List Ses) (key t v : Int) : (putL room g L key t v).length ≤ L.length + 1 := by
  unfold putL
  split
  · exact put_len_le g L key t v
  · omega
end Go.Proofs.Ytpjfmilokadchaa.Se
