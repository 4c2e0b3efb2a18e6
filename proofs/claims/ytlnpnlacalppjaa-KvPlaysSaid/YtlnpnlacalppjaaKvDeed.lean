/- Deeds: what a slice of them holds; what a store's call leaves of everything else. -/
import Derived.Test.YtlnpnlacalppjaaKvShown
import Derived.Test.YtlnpnlacalppjaaOpn
namespace Go.Proofs.Ytlnpnlacalppjaa.Kv
open Go Go.RowKit Go.Proofs.YtlnpnlacalppjaaW.PrintWords Go.Proofs.YtlnpnlacalppjaaW.PrintLast Go.Proofs.YtlnpnlacalppjaaW.PrintMore Go.Proofs.Ytlnpnlacalppjaa.Rw Go.Proofs.Ytlnpnlacalppjaa.Ex Go.Proofs.Ytlnpnlacalppjaa.Opn
set_option linter.unusedVariables false
set_option linter.unusedSimpArgs false
abbrev Chg5 := Int × Int × Int × Int × Bool
abbrev Deed := Int × Int × Int × Chg5
def kChg5 : Kd Chg5 := Kd.pair (Kd.int .i64) (Kd.pair (Kd.int .i64) (Kd.pair (Kd.int .i64) (Kd.pair (Kd.int .i64) Kd.bool)))
def kDeed : Kd Deed := Kd.pair (Kd.int .i64) (Kd.pair (Kd.int .i64) (Kd.pair (Kd.int .i64) kChg5))
def GChg {H : Type} : Chg5 → DataW H → Prop := GAgg (GCons (GInt .i64) (GCons (GInt .i64) (GCons (GInt .i64) (GCons (GInt .i64) (GOne GBool)))))
def GDeed {H : Type} : Deed → DataW H → Prop := GAgg (GCons (GInt .i64) (GCons (GInt .i64) (GCons (GInt .i64) (GOne GChg))))
theorem opens_chg {H : Type} {enc : TypeId × Value → H} : Opens enc Try.prog kChg5 30 GChg :=
  opens_struct Try.underlying30 rfl (by kernel_rfl) (opensF_cons (off' := 1) rfl (by kernel_rfl) rfl (opens_int Try.underlying2) (opensF_cons (off' := 2) rfl (by kernel_rfl) rfl (opens_int Try.underlying2) (opensF_cons (off' := 3) rfl (by kernel_rfl) rfl (opens_int Try.underlying2)
    (opensF_cons (off' := 4) rfl (by kernel_rfl) rfl (opens_int Try.underlying2) (opensF_one rfl (by kernel_rfl) (opens_bool Try.underlying4))))))
theorem opens_deeds {H : Type} {enc : TypeId × Value → H} : Opens enc Try.prog (Kd.slice 41 kDeed) 39 (GSlice GDeed) :=
  opens_slice Try.underlying39 (opens_struct Try.underlying41 rfl (by kernel_rfl) (opensF_cons (off' := 1) rfl (by kernel_rfl) rfl (opens_int Try.underlying3) (opensF_cons (off' := 2) rfl (by kernel_rfl) rfl (opens_int Try.underlying2) (opensF_cons (off' := 3) rfl (by kernel_rfl) rfl (opens_int Try.underlying2) (opensF_one rfl (by kernel_rfl) opens_chg))))) (by kernel_rfl)
structure DOk (d : Deed) : Prop where
  kind : In64 d.1
  key : In64 d.2.1
  val : In64 d.2.2.1
  ck : In64 d.2.2.2.1
  cf : In64 d.2.2.2.2.1
  ct : In64 d.2.2.2.2.2.1
  cv : In64 d.2.2.2.2.2.2.1
theorem deeds_wf {H : Type} {l : List Deed} {x : DataW H} (h : GSlice GDeed l x) : ∀ d ∈ l, DOk d := by
  obtain ⟨_, h⟩ := h
  rcases h with ⟨rfl, _⟩ | ⟨ds, rest, _, hl, h⟩
  · intro p hp; cases hp
  · intro p hp
    obtain ⟨i, hi, rfl⟩ := List.getElem_of_mem hp
    obtain ⟨_, _, _, r, _, ⟨_, h1⟩, _, r2, _, ⟨_, h2⟩, _, r3, _, ⟨_, h3⟩, _, _, q, _, _, s1, _, ⟨_, h4⟩, _, s2, _, ⟨_, h5⟩, _, s3, _, ⟨_, h6⟩, _, s4, _, ⟨_, h7⟩, _⟩ := h i _ _ (List.getElem?_eq_getElem hi) (List.getElem?_eq_getElem (by omega))
    exact ⟨wfk_i64 h1, wfk_i64 h2, wfk_i64 h3, wfk_i64 h4, wfk_i64 h5, wfk_i64 h6, wfk_i64 h7⟩
theorem at_deed {w : World} {A : Option Addr} {n : Nat} {l : List Deed} (h : kDeed.C w A n l) {k : Nat} {d : Deed} (hk : l[k]? = some d) :
    ∃ ad, A = some ad ∧ w.cell? (ad.add (k * 8)) = some (.int .i64 d.1) ∧ w.cell? ⟨(ad.add (k * 8)).block, (ad.add (k * 8)).off + 1, none⟩ = some (.int .i64 d.2.1) ∧ w.cell? ⟨(ad.add (k * 8)).block, (ad.add (k * 8)).off + 2, none⟩ = some (.int .i64 d.2.2.1) ∧
      w.cell? ⟨(ad.add (k * 8)).block, (ad.add (k * 8)).off + 3, none⟩ = some (.int .i64 d.2.2.2.1) ∧ w.cell? ⟨(ad.add (k * 8)).block, (ad.add (k * 8)).off + 4, none⟩ = some (.int .i64 d.2.2.2.2.1) ∧ w.cell? ⟨(ad.add (k * 8)).block, (ad.add (k * 8)).off + 5, none⟩ = some (.int .i64 d.2.2.2.2.2.1) ∧
      w.cell? ⟨(ad.add (k * 8)).block, (ad.add (k * 8)).off + 6, none⟩ = some (.int .i64 d.2.2.2.2.2.2.1) ∧ w.cell? ⟨(ad.add (k * 8)).block, (ad.add (k * 8)).off + 7, none⟩ = some (.bool d.2.2.2.2.2.2.2) := by
  have hlt := (List.getElem?_eq_some_iff.1 hk).1
  obtain ⟨ad, e, hc⟩ := h.2.2 (by have := h.1; omega)
  obtain ⟨c, hs, ⟨c0, c1, rfl, h0, c2, c3, rfl, h2, c4, c5, rfl, h4, c6, c7, rfl, h6, c8, c9, rfl, h8, c10, c11, rfl, h10, c12, c13, rfl, h12, h13⟩, hcell⟩ := hc k _ hk
  have h0' : c0 = [Value.int .i64 d.1] := h0
  have h2' : c2 = [Value.int .i64 d.2.1] := h2
  have h4' : c4 = [Value.int .i64 d.2.2.1] := h4
  have h6' : c6 = [Value.int .i64 d.2.2.2.1] := h6
  have h8' : c8 = [Value.int .i64 d.2.2.2.2.1] := h8
  have h10' : c10 = [Value.int .i64 d.2.2.2.2.2.1] := h10
  have h12' : c12 = [Value.int .i64 d.2.2.2.2.2.2.1] := h12
  have h13' : c13 = [Value.bool d.2.2.2.2.2.2.2] := h13
  subst h0' h2' h4' h6' h8' h10' h12' h13'
  have g : ∀ i u, ([Value.int .i64 d.1] ++ ([Value.int .i64 d.2.1] ++ ([Value.int .i64 d.2.2.1] ++ ([Value.int .i64 d.2.2.2.1] ++ ([Value.int .i64 d.2.2.2.2.1] ++ ([Value.int .i64 d.2.2.2.2.2.1] ++ ([Value.int .i64 d.2.2.2.2.2.2.1] ++ [Value.bool d.2.2.2.2.2.2.2])))))))[i]? = some u → w.cell? ((ad.add (k * 8)).add i) = some u := fun i u hu => by rw [Opn.add_add]; exact hcell i u hu
  exact ⟨ad, e, hcell 0 _ rfl, g 1 _ rfl, g 2 _ rfl, g 3 _ rfl, g 4 _ rfl, g 5 _ rfl, g 6 _ rfl, g 7 _ rfl⟩
/-- All blocks that are none of a store's are as they were. -/
def KeepT (w w' : World) : Prop := w.heap.size ≤ w'.heap.size ∧ ∀ (g : Nat) (cs : Array Value) (T : TypeId) (fr : Nat × Nat), w.heap[g]? = some (.cells cs T fr) → T ≠ 61 → T ≠ 65 → w'.heap[g]? = some (.cells cs T fr)
theorem KeepT.of {w w' : World} {base b : Nat} {room : Int} {v : Value} {L : KL} (hk : KvS w base b room v L) (hc : Chg w w' (SB b v)) : KeepT w w' := by
  refine ⟨hc.size, fun g cs T fr hg h1 h2 => ?_⟩
  rw [hc.block g (Array.getElem?_eq_some_iff.1 hg).1 (fun hs => ?_)]
  · exact hg
  · rcases hs with e | e
    · exact blk_types hg hk.cell h1 e
    · obtain ⟨cur, hcur⟩ := own_block hk.row e
      exact blk_types hg hcur h2 rfl
theorem KeepT.blk {w w' : World} (h : KeepT w w') {g : Nat} {cs : Array Value} {T : TypeId} {fr : Nat × Nat} (hg : w.heap[g]? = some (.cells cs T fr)) (h1 : T ≠ 61) (h2 : T ≠ 65) : w'.heap[g]? = some (.cells cs T fr) := h.2 g cs T fr hg h1 h2
theorem KeepT.R {w w' : World} (h : KeepT w w') {base : Nat} {ok : Nat → Prop} {v : Value} {xs : List S30} (hr : Kd.R k30 30 w base ok v xs) : Kd.R k30 30 w' base ok v xs :=
  Kd.R_mono (Kd.R_move (Kd.R_bound hr) (fun k hk => by
    obtain ⟨_, _, hlt, q, hq, cs, hc⟩ := hk
    have e : q = 30 := by simpa [k30, Kd.iso, Kd.pair, Kd.int, Kd.bool, Kd.scalar] using hq
    subst e
    rw [hc]
    exact h.blk hc (by decide) (by decide))) (fun _ hk => hk.1)
section
variable {w0 w : World} {b b1 b2 b3 : Nat} {room r1 r2 r3 : Int} {L L1 L2 L3 L' : KL} {F : FuncId} {args : Array Value} {x : Value}
theorem St1.opK (h : St1 w0 w b room L) (hc : ∀ v, KvS w w0.heap.size b room v L → Calls Try.prog F args w (OpPost w0.heap.size b room v L' x w)) : Calls Try.prog F args w fun e w' => e = .returned x ∧ St1 w0 w' b room L' ∧ KeepT w w' := by
  obtain ⟨⟨v, hk⟩, hl⟩ := h
  refine (hc v hk).mono ?_
  rintro e w' ⟨v', rfl, h1, h2, h3⟩
  exact ⟨rfl, ⟨⟨v', h1⟩, Chg.below hl h2 hl.size fun k hk' => (hk.sb k hk').1⟩, KeepT.of hk h2⟩
theorem St3.opK (h : St3 w0 w b1 r1 L1 b2 r2 L2 b3 r3 L3) (hc : ∀ v, KvS w w0.heap.size b1 r1 v L1 → Calls Try.prog F args w (OpPost w0.heap.size b1 r1 v L' x w)) : Calls Try.prog F args w fun e w' => e = .returned x ∧ St3 w0 w' b1 r1 L' b2 r2 L2 b3 r3 L3 ∧ KeepT w w' := by
  obtain ⟨⟨v1, v2, v3, k1, k2, k3, ha, hb, hcc⟩, hl⟩ := h
  refine (hc v1 k1).mono ?_
  rintro e w' ⟨v', rfl, h1, h2, h3⟩
  exact ⟨rfl, ⟨⟨v', v2, v3, h1, k2.other h2 ha.symm, k3.other h2 hb.symm, ha.hat h3 fun k hk => (k2.sb k hk).2, hb.hat h3 fun k hk => (k3.sb k hk).2, hcc⟩, Chg.below hl h2 hl.size fun k hk' => (k1.sb k hk').1⟩, KeepT.of k1 h2⟩
end
end Go.Proofs.Ytlnpnlacalppjaa.Kv
