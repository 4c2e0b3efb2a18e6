/- What a parameter that is a topology holds. -/
import Derived.Test.YteanncfmaomhaaaOpVt
import Derived.Test.YteanncfmaomhaaaTpCheck
namespace Go.Proofs.Yteanncfmaomhaaa.Ex
open Go Go.RowKit Go.Proofs.YteanncfmaomhaaaW.PrintWords Go.Proofs.Yteanncfmaomhaaa.Opn
set_option linter.unusedVariables false
set_option linter.unusedSimpArgs false
/-- How many vertices the datum has. -/
def topoLen {H : Type} (l : List Vx) (x : DataW H) : Prop := ∃ y z, x = .agg [y, z] ∧ ((y = .nil ∧ l = []) ∨ ∃ ds rest, y = .slice ds rest ∧ ds.length = l.length)
theorem opens_LV {H : Type} {enc : TypeId × Value → H} : Opens enc Try.prog (Kd.slice 40 k40) 22 (GSlice (fun (v : Vx) _ => vxOk v)) := opens_slice (e' := 40) Try.underlying22 opens_V (by kernel_rfl)
theorem vx_all {H : Type} {l : List Vx} {x : DataW H} (h : GSlice (fun (v : Vx) _ => vxOk v) l x) : ∀ v ∈ l, vxOk v := by
  obtain ⟨h0, h⟩ := h
  intro n hn
  rcases h with ⟨rfl, _⟩ | ⟨ds, rest, _, hl, h⟩
  · cases hn
  · obtain ⟨i, hi, rfl⟩ := List.getElem_of_mem hn
    exact h i _ _ (List.getElem?_eq_getElem hi) (List.getElem?_eq_getElem (by omega))
theorem opens_T {H : Type} {enc : TypeId × Value → H} : Opens enc Try.prog (Kd.pair (Kd.slice 40 k40) (Kd.int .i64)) 24 (fun t x => (∀ v ∈ t.1, vxOk v) ∧ topoLen t.1 x) := by
  have h := opens_struct (enc := enc) Try.underlying24 rfl (by kernel_rfl) (opensF_cons (off' := 1) rfl (by kernel_rfl) rfl opens_LV (opensF_one rfl (by kernel_rfl) (opens_int Try.underlying3)))
  refine Opens.mono h (fun t x hx => ?_)
  obtain ⟨l, hl, y, r, hr, h1, z, hz, _⟩ := hx
  refine ⟨vx_all h1, y, z, by rw [hl, hr, hz], ?_⟩
  rcases h1.2 with ⟨h2, h3⟩ | ⟨ds, rest, h2, h3, _⟩
  · exact .inl ⟨h3, h2⟩
  · exact .inr ⟨ds, rest, h2, h3⟩
theorem topo_len {H : Type} {ts : List TypeId} {ds : List (DataW H)} {d : DataW H} {l : List Vx} (hsz : (DataW.weightsEach Try.prog (24 :: ts) (d :: ds)).all (· ≤ reachBytes) = true) (hg : topoLen l d) : l.length ≤ 1759218604441 := by
  obtain ⟨y, z, rfl, h⟩ := hg
  rcases h with ⟨_, rfl⟩ | ⟨es, rest, rfl, h⟩
  · simp
  · have hb : Try.prog.bytesOf 40 = 80 := by kernel_rfl
    have hm : (es.length + rest.length) * 80 ∈ DataW.weightsEach Try.prog (24 :: ts) (.agg [.slice es rest, z] :: ds) := by
      rw [DataW.weightsEach, DataW.weights, Try.underlying24]
      simp only [List.map_cons, List.map_nil]
      rw [DataW.weightsEach, DataW.weights, Try.underlying22]
      simp [hb]
    have := List.all_eq_true.1 hsz _ hm
    simp only [decide_eq_true_eq] at this
    have hr : reachBytes = 140737488351232 := rfl
    omega
end Go.Proofs.Yteanncfmaomhaaa.Ex
