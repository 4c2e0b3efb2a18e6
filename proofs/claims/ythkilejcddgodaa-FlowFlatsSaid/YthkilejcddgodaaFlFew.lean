/- What the statements of chains lean on: few. -/
import Derived.Test.YthkilejcddgodaaFlM
import Derived.Test.YthkilejcddgodaaFlCh2
import Derived.Test.YthkilejcddgodaaExCnt
import Derived.Test.YthkilejcddgodaaOpV
import Derived.Test.YthkilejcddgodaaEx12
namespace Go.Proofs.Ythkilejcddgodaa.Ex
open Go Go.RowKit Go.Proofs.YthkilejcddgodaaW.PrintWords Go.Proofs.YthkilejcddgodaaW.PrintLast Go.Proofs.YthkilejcddgodaaW.PrintMore Go.Proofs.Ythkilejcddgodaa.Opn
set_option linter.unusedVariables false
set_option linter.unusedSimpArgs false
theorem opens_LV {H : Type} {enc : TypeId × Value → H} : Opens enc Try.prog (Kd.slice 27 k27) 40 (GSlice (fun (v : Vx) _ => vxOk v)) := opens_slice (e' := 27) Try.underlying40 opens_V (by kernel_rfl)
theorem vx_all {H : Type} {l : List Vx} {x : DataW H} (h : GSlice (fun (v : Vx) _ => vxOk v) l x) : ∀ v ∈ l, vxOk v := by
  obtain ⟨h0, h⟩ := h
  intro n hn
  rcases h with ⟨rfl, _⟩ | ⟨ds, rest, _, hl, h⟩
  · cases hn
  · obtain ⟨i, hi, rfl⟩ := List.getElem_of_mem hn
    exact h i _ _ (List.getElem?_eq_getElem hi) (List.getElem?_eq_getElem (by omega))
theorem rd_vx {l : List Vx} {i : Nat} (h : i < l.length) : rd_T27 l (i : Int) = l[i] := by unfold rd_T27; simp [List.getD, h]
theorem few_l0 (l : List Vx) (hw : ∀ v ∈ l, wfE v.f2) (hl : l.length ≤ 1000000) : ∀ (m i : Nat) (acc : Int), i + m = l.length → ∃ b, Ev (fun k => tidemilllaw17_few.l0 k l acc (i : Int)) (l, b) := by
  intro m
  induction m with
  | zero =>
    intro i acc h
    refine ⟨decide (acc ≤ 3000), Ev.step (f := fun _ => some (l, decide (acc ≤ 3000))) (fun k => ?_) (Ev.now _)⟩
    simp only [tidemilllaw17_few.l0]
    rw [if_neg (by omega)]
  | succ m ih =>
    intro i acc h
    have hlt : i < l.length := by omega
    by_cases ha : acc ≤ 3000
    · obtain ⟨c, hc⟩ := count_any l[i].f2 (hw _ (List.getElem_mem hlt))
      obtain ⟨b, hb⟩ := ih (i + 1) (wrap64 (acc + c)) (by omega)
      refine ⟨b, Ev.step (f := fun k => (tidemillref04_Count.f k l[i].f2.f0 l[i].f2.f1 l[i].f2.f2).bind fun t => tidemilllaw17_few.l0 k l (wrap64 (acc + t)) ((i + 1 : Nat) : Int)) (fun k => ?_) (Ev.bind hc hb)⟩
      simp only [tidemilllaw17_few.l0]
      rw [if_pos (by omega), if_pos ha, if_pos (by omega), rd_vx hlt, show wrap64 ((i : Int) + 1) = ((i + 1 : Nat) : Int) by unfold wrap64; omega]
    · refine ⟨decide (acc ≤ 3000), Ev.step (f := fun _ => some (l, decide (acc ≤ 3000))) (fun k => ?_) (Ev.now _)⟩
      simp only [tidemilllaw17_few.l0]
      rw [if_pos (by omega), if_neg ha]
/-- No more than eight are left. -/
theorem few_ev (l : List Vx) (hw : ∀ v ∈ l, wfE v.f2) : ∃ b, Ev (fun k => tidemilllaw17_few.f k l) (l.take 8, b) := by
  have h8 : (l.take 8).length ≤ 8 := List.length_take_le _ _
  obtain ⟨b, hb⟩ := few_l0 (l.take 8) (fun v hv => hw v (List.mem_of_mem_take hv)) (by omega) (l.take 8).length 0 0 (by omega)
  have hj : Ev (fun k => tidemilllaw17_few.j0 k (l.take 8)) (l.take 8, b) := Ev.step (fun k => by simp only [tidemilllaw17_few.j0]; rfl) hb
  refine ⟨b, ?_⟩
  unfold tidemilllaw17_few.f
  by_cases h : (l.length : Int) > 8
  · simp only [if_pos h, if_pos (show (8 : Int) ≤ l.length by omega)]
    exact hj
  · simp only [if_neg h]
    rw [List.take_of_length_le (by omega)] at hj ⊢
    exact hj
theorem chain_ev {l : List Vx} (h : l.length ≤ 8) (a b c : Int) : Ev (fun k => flow_Chain.f k l a b c) (chainOf l ⟨a, b, c⟩) := ⟨0, fun k _ => by unfold flow_Chain.f; rw [if_pos h]⟩
theorem chain_len {l : List Vx} (h : l.length ≤ 8) (r : Rc) : (chainOf l r).1.length ≤ 65536 := by
  rw [chain_def]
  by_cases h1 : (chGo l 0 r (zeroS l.length)).1 = true
  · rw [if_pos h1]
    have h2 := chGo_len l 0 r (zeroS l.length)
    have h3 : 4 ^ l.length ≤ 4 ^ 8 := Nat.pow_le_pow_right (by omega) h
    simp only [zeroS, List.length_nil, Nat.zero_add] at h2 ⊢
    omega
  · rw [if_neg h1]; simp
end Go.Proofs.Ythkilejcddgodaa.Ex
