/- What a parameter that is an expression holds. -/
import Derived.Test.YteanncfmaomhaaaExMay
import Derived.Test.YteanncfmaomhaaaOpn
namespace Go.Proofs.Yteanncfmaomhaaa.Ex
open Go Go.RowKit Go.Proofs.YteanncfmaomhaaaW.PrintWords Go.Proofs.Yteanncfmaomhaaa.Opn
set_option linter.unusedVariables false
set_option linter.unusedSimpArgs false
theorem wf_I64 {n : Int} (h : (Lit.int .i64 n).wf = true) : I64 n := by
  simp [Lit.wf, IntKind.min, IntKind.max, IntKind.bits, IntKind.signed] at h
  unfold I64
  omega
set_option maxRecDepth 100000 in
theorem opens_E {H : Type} {enc : TypeId × Value → H} : Opens enc Try.prog k38 38 (fun e _ => wfE e) := by
  have key : ∀ N fuel : Nat, fuel ≤ N → ∀ (w : World) (base : Nat) (sp : Nat → Bool) (held : Bool) (cs : List Value) (x : DataW H × List MemPlace), DataW.trod enc Try.prog w base sp held fuel 38 cs = some x → ∃ e, k38.K w e cs ∧ wfE e := by
    intro N
    induction N with
    | zero =>
      intro fuel hN w base sp held cs x h
      obtain ⟨xs, n, hf, _⟩ := DataW.trod_struct Try.underlying38 h
      omega
    | succ N ih =>
      intro fuel hN w base sp held cs x h
      obtain ⟨xs, n, hf, _, hc, hlen, hfs⟩ := DataW.trod_struct Try.underlying38 h
      have hc3 : cs.length = 3 := by rw [hc]; kernel_rfl
      have hx3 : xs.length = 3 := by rw [hlen]; rfl
      obtain ⟨y0, y1, y2, rfl⟩ : ∃ a b c, xs = [a, b, c] := by
        match xs, hx3 with
        | [a, b, c], _ => exact ⟨a, b, c, rfl⟩
      obtain ⟨v0, v1, v2, rfl⟩ : ∃ a b c, cs = [a, b, c] := by
        match cs, hc3 with
        | [a, b, c], _ => exact ⟨a, b, c, rfl⟩
      have e0 : Try.prog.cellsOf 3 = 1 := by kernel_rfl
      have e1 : Try.prog.cellsOf 2 = 1 := by kernel_rfl
      have e2 : Try.prog.cellsOf 36 = 1 := by kernel_rfl
      have e3 : Try.prog.cellsOf 38 = 3 := by kernel_rfl
      have f0 : DataW.trod enc Try.prog w base sp held n 3 (([v0, v1, v2].drop 0).take (Try.prog.cellsOf 3)) = some y0 := hfs 0 _ rfl
      have f1 : DataW.trod enc Try.prog w base sp held n 2 (([v0, v1, v2].drop 1).take (Try.prog.cellsOf 2)) = some y1 := hfs 1 _ rfl
      have f2 : DataW.trod enc Try.prog w base sp held n 36 (([v0, v1, v2].drop 2).take (Try.prog.cellsOf 36)) = some y2 := hfs 2 _ rfl
      rw [e0] at f0
      rw [e1] at f1
      rw [e2] at f2
      obtain ⟨a0, h0, _, w0⟩ := DataW.trod_int Try.underlying3 f0
      obtain ⟨a1, h1, _, w1⟩ := DataW.trod_int Try.underlying2 f1
      obtain rfl : v0 = .int .i64 a0 := by simpa using h0
      obtain rfl : v1 = .int .i64 a1 := by simpa using h1
      rcases DataW.trod_slice Try.underlying36 f2 with ⟨hc2, _⟩ | ⟨A, len, cap, elems, rest, m, hm, hc2, _, _, hl, hmx, hlen2, hel, _, _⟩
      · obtain rfl : v2 = .slice none 0 0 := by simpa using hc2
        refine ⟨⟨a0, a1, []⟩, k38_mk w ⟨a0, a1, []⟩ (Nat.le_refl _) (Kd.C_nil _ _), .mk _ _ _ (wf_I64 w0) (wf_I64 w1) (by simp) (fun x hx => by cases hx)⟩
      · obtain rfl : v2 = .slice (some A) len cap := by simpa using hc2
        have hmx2 : maxLen ≤ 9223372036854775807 := by decide
        obtain ⟨l, hll, hls⟩ := choose_list (Q := fun i e => ∃ c, w.cells? base (A.add (i * 3)) 3 = some c ∧ k38.K w e c ∧ wfE e) len (fun i hi => by
          have h3 := hel i hi
          rw [List.getElem?_eq_getElem (by omega), Option.bind_eq_some_iff] at h3
          obtain ⟨c, hc, hy⟩ := h3
          obtain ⟨e, hK, hw⟩ := ih _ (by omega) _ _ _ _ _ _ hy
          rw [e3] at hc
          exact ⟨e, c, hc, hK, hw⟩)
        have hC : Kd.C k38 w (some A) l.length l := by
          refine ⟨rfl, by omega, fun _ => ⟨A, rfl, fun j p hj => ?_⟩⟩
          obtain ⟨c, h3, h4, _⟩ := hls j p hj
          have h5 := World.cells?_some h3
          refine ⟨c, h5.2.1, h4, fun i u hu => ?_⟩
          have hi : i < 3 := by have := (List.getElem?_eq_some_iff.1 hu).1; have := h5.2.1; omega
          rw [show (Kd.sz k38) = 3 from rfl, ← Opn.add_add, h5.2.2 i hi, hu]
        subst hll
        refine ⟨⟨a0, a1, l⟩, k38_mk w ⟨a0, a1, l⟩ hl hC, .mk _ _ _ (wf_I64 w0) (wf_I64 w1) (show l.length ≤ 9223372036854775807 by omega) (fun x hx => ?_)⟩
        obtain ⟨i, hi, rfl⟩ := List.getElem_of_mem hx
        obtain ⟨_, _, _, h6⟩ := hls i _ (List.getElem?_eq_getElem hi)
        exact h6
  intro w base sp held fuel cs x h
  exact key fuel fuel (Nat.le_refl _) w base sp held cs x h
end Go.Proofs.Yteanncfmaomhaaa.Ex
