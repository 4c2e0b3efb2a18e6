/- (c16) Plain laws: small topologies; the document's example; a key's partition. -/
import Derived.Test.YtlandgbhbfdekaaCtInp
import Derived.Test.YtlandgbhbfdekaaEx5
namespace Go.Proofs.Ytlandgbhbfdekaa.Ex
open Go Go.RowKit Go.Proofs.YtlandgbhbfdekaaW.PrintWords Go.Proofs.YtlandgbhbfdekaaW.PrintLast Go.Proofs.YtlandgbhbfdekaaW.PrintMore
set_option linter.unusedVariables false
set_option linter.unusedSimpArgs false
theorem ctCount_l0 (l : List E) (x0 x1 : Int) (hl : l.length ≤ 9223372036854775807) (g : E → Int) (hf : ∀ x ∈ l, Ev (fun k => tidemillref04_Count.f k x.f0 x.f1 x.f2) (g x)) :
    ∀ (r i : Nat) (n : Int), i + r = l.length → Ev (fun k => tidemillref04_Count.l0 k n (i : Int) x0 x1 l) ((l.drop i).foldl (fun n x => wrap64 (n + g x)) n) := by
  intro r
  induction r with
  | zero =>
    intro i n hi
    rw [List.drop_of_length_le (by omega)]
    refine Ev.step (f := fun _ => some n) (fun k => ?_) (Ev.now _)
    simp only [tidemillref04_Count.l0]
    rw [if_neg (by omega)]
  | succ r ih =>
    intro i n hi
    have hlt : i < l.length := by omega
    rw [drop_rd hlt]
    refine Ev.step (f := fun k => (tidemillref04_Count.f k (rd_T34 l (i : Int)).f0 (rd_T34 l (i : Int)).f1 (rd_T34 l (i : Int)).f2).bind fun t => tidemillref04_Count.l0 k (wrap64 (n + t)) ((i + 1 : Nat) : Int) x0 x1 l) (fun k => ?_) ?_
    · simp only [tidemillref04_Count.l0]
      rw [if_pos (by omega), if_pos (by omega), wsucc (by omega)]
    · exact Ev.bind (hf _ (rd_mem hlt)) (ih (i + 1) _ (by omega))
theorem ctCount_any : ∀ e, wfE e → ∃ c, Ev (fun k => tidemillref04_Count.f k e.f0 e.f1 e.f2) c := by
  refine E_ind (fun e ih hw => ?_)
  have h := hw.out
  have hc : ∀ x, ∃ c : Int, x ∈ e.f2 → Ev (fun k => tidemillref04_Count.f k x.f0 x.f1 x.f2) c := fun x => by
    by_cases hx : x ∈ e.f2
    · obtain ⟨c, hc⟩ := ih x hx (h.2.2.2 x hx)
      exact ⟨c, fun _ => hc⟩
    · exact ⟨0, fun hx' => absurd hx' hx⟩
  have h2 := ctCount_l0 e.f2 e.f0 e.f1 h.2.2.1 (fun x => Classical.choose (hc x)) (fun x hx => Classical.choose_spec (hc x) hx) e.f2.length 0 1 (by omega)
  rw [List.drop_zero] at h2
  exact ⟨_, Ev.step (f := fun k => tidemillref04_Count.l0 k 1 ((0 : Nat) : Int) e.f0 e.f1 e.f2) (fun k => by simp only [tidemillref04_Count.f]; rfl) h2⟩
theorem ctWrap {i : Nat} (h : i < 9223372036854775807) : wrap64 ((i : Int) + 1) = ((i + 1 : Nat) : Int) := by unfold wrap64; omega
theorem ctVmem {l : List Vx} {i : Nat} (h : i < l.length) : vAt l (i : Int) ∈ l := by rw [vAt_get h]; exact List.getElem_mem _
theorem ctSmall_l0 (l : List Vx) (p : Int) (hw : ∀ v ∈ l, wfE v.f2) (hl : l.length ≤ 1759218604441) : ∀ (d i : Nat) (n : Int), i + d = l.length → ∃ b, Ev (fun k => tidemilllaw16_small.l0 k n (i : Int) l p) b := by
  intro d
  induction d with
  | zero =>
    intro i n hi
    refine ⟨decide (n ≤ 5000), Ev.step (f := fun _ => some (decide (n ≤ 5000))) (fun k => ?_) (Ev.now _)⟩
    simp only [tidemilllaw16_small.l0]
    rw [if_neg (by omega)]
  | succ d ih =>
    intro i n hi
    have hlt : i < l.length := by omega
    by_cases hn : n ≤ 5000
    · obtain ⟨c, hc⟩ := ctCount_any (vAt l (i : Int)).f2 (hw _ (ctVmem hlt))
      obtain ⟨b, hb⟩ := ih (i + 1) (wrap64 (n + c)) (by omega)
      refine ⟨b, Ev.step (f := fun k => (tidemillref04_Count.f k (vAt l (i : Int)).f2.f0 (vAt l (i : Int)).f2.f1 (vAt l (i : Int)).f2.f2).bind fun t167 => tidemilllaw16_small.l0 k (wrap64 (n + t167)) ((i + 1 : Nat) : Int) l p) (fun k => ?_) (Ev.bind hc hb)⟩
      simp only [tidemilllaw16_small.l0]
      rw [if_pos (by omega), if_pos hn, if_pos (by omega), show rd_T37 l (i : Int) = vAt l (i : Int) from rfl, ctWrap (by omega)]
    · refine ⟨decide (n ≤ 5000), Ev.step (f := fun _ => some (decide (n ≤ 5000))) (fun k => ?_) (Ev.now _)⟩
      simp only [tidemilllaw16_small.l0]
      rw [if_pos (by omega), if_neg hn]
theorem ctSmall (l : List Vx) (p : Int) (hw : ∀ v ∈ l, wfE v.f2) (hl : l.length ≤ 1759218604441) : ∃ b, Ev (fun k => tidemilllaw16_small.f k l p) b := ctSmall_l0 l p hw hl l.length 0 0 (by omega)
theorem ctShown40 : tidemilllaw16_shown.f 40 = some true := by decide +kernel
theorem ctShown : Ev (fun k => tidemilllaw16_shown.f k) true := Ev.of (fun k => tidemilllaw16_shown.mono k) ctShown40
theorem ctOkV {l : List Vx} (h : ∀ v ∈ l, I64 v.f3) : okV l = true := by
  unfold okV
  rw [List.all_eq_true]
  intro v hv
  have := h v hv
  unfold I64 at this
  simpa using this
theorem ctCheck {l : List Vx} (h : ∀ v ∈ l, I64 v.f3) (p : Int) : topo_Check.f l p = some (checkOf l p) := by unfold topo_Check.f; rw [if_pos (ctOkV h)]
theorem ctParts {l : List Vx} (h : ∀ v ∈ l, I64 v.f3) (p : Int) : cut_Parts.f l p = some (if (checkOf l p).2 = 0 then partsOf l else [], (checkOf l p).2) := parts_f l p (ctOkV h) rfl
theorem ctPos {l : List Vx} {p : Int} (h : (checkOf l p).2 = 0) : 1 ≤ p ∧ p ≤ 8 ∧ 0 < l.length ∧ l.length ≤ 24 := by
  unfold checkOf at h
  by_cases h1 : p < 1 ∨ 8 < p ∨ l.length = 0 ∨ 24 < l.length
  · rw [if_pos h1] at h; exact absurd h (by decide)
  omega
/-- A key's partition. -/
theorem ctMod {a p : Int} (h1 : 1 ≤ p) (h2 : p ≤ 8) : Int.tmod (wrap64 (Int.tmod a p + p)) p = a % p := by
  have e := Int.tmod_def a p
  have hlt := Int.tmod_lt_of_pos a (show 0 < p by omega)
  have hgt : -p < Int.tmod a p := by
    have := Int.lt_tmod_of_pos a (show 0 < p by omega)
    exact this
  have hw : wrap64 (Int.tmod a p + p) = Int.tmod a p + p := by unfold wrap64; omega
  rw [hw, Int.tmod_eq_emod_of_nonneg (by omega), Int.add_emod_right, e, Int.sub_mul_emod_self_left]
theorem ctPart {l : List Vx} (h : ∀ v ∈ l, I64 v.f3) (p a : Int) : cut_Part.f l p a = some (if (checkOf l p).2 = 0 then a % p else -1) := by
  unfold cut_Part.f cut_may.f
  rw [ctCheck h, Option.bind_some, Option.bind_some]
  by_cases h0 : (checkOf l p).2 = 0
  · have hp := ctPos h0
    rw [if_pos (by simpa using h0), if_neg (by omega), if_pos h0, ctMod hp.1 hp.2.1]
  · rw [if_neg (by simpa using h0), if_neg h0]
end Go.Proofs.Ytlandgbhbfdekaa.Ex
