/- (c16) The statement CutLogs. -/
import Derived.Test.YtlandgbhbfdekaaExMay
import Derived.Test.YtlandgbhbfdekaaOpn
import Derived.Test.YtlandgbhbfdekaaTpCheck
import Derived.Test.YtlandgbhbfdekaaCtInp
import Derived.Test.YtlandgbhbfdekaaEx5
import Derived.Test.YtlandgbhbfdekaaTpP
import Derived.Test.YtlandgbhbfdekaaEx9
import Derived.Test.YtlandgbhbfdekaaEx10
import Derived.Test.YtlandgbhbfdekaaCtInpP
import Derived.Test.YtlandgbhbfdekaaEx13
import Derived.Test.YtlandgbhbfdekaaEx14
namespace Go.Proofs.Ytlandgbhbfdekaa.Ex
open Go Go.RowKit Go.Proofs.YtlandgbhbfdekaaW.PrintWords Go.Proofs.Ytlandgbhbfdekaa.Opn
set_option linter.unusedVariables false
set_option linter.unusedSimpArgs false
theorem wf_I64 {n : Int} (h : (Lit.int .i64 n).wf = true) : I64 n := by
  simp [Lit.wf, IntKind.min, IntKind.max, IntKind.bits, IntKind.signed] at h
  unfold I64
  omega
set_option maxRecDepth 100000 in
theorem opens_E {H : Type} {enc : TypeId × Value → H} : Opens enc Try.prog k34 34 (fun e _ => wfE e) := by
  have key : ∀ N fuel : Nat, fuel ≤ N → ∀ (w : World) (base : Nat) (sp : Nat → Bool) (held : Bool) (cs : List Value) (x : DataW H × List MemPlace), DataW.trod enc Try.prog w base sp held fuel 34 cs = some x → ∃ e, k34.K w e cs ∧ wfE e := by
    intro N
    induction N with
    | zero =>
      intro fuel hN w base sp held cs x h
      obtain ⟨xs, n, hf, _⟩ := DataW.trod_struct Try.underlying34 h
      omega
    | succ N ih =>
      intro fuel hN w base sp held cs x h
      obtain ⟨xs, n, hf, _, hc, hlen, hfs⟩ := DataW.trod_struct Try.underlying34 h
      have hc3 : cs.length = 3 := by rw [hc]; kernel_rfl
      have hx3 : xs.length = 3 := by rw [hlen]; rfl
      obtain ⟨y0, y1, y2, rfl⟩ : ∃ a b c, xs = [a, b, c] := by
        match xs, hx3 with
        | [a, b, c], _ => exact ⟨a, b, c, rfl⟩
      obtain ⟨v0, v1, v2, rfl⟩ : ∃ a b c, cs = [a, b, c] := by
        match cs, hc3 with
        | [a, b, c], _ => exact ⟨a, b, c, rfl⟩
      have e0 : Try.prog.cellsOf 3 = 1 := by kernel_rfl
      have e1 : Try.prog.cellsOf 2 = 1 := by kernel_rfl
      have e2 : Try.prog.cellsOf 32 = 1 := by kernel_rfl
      have e3 : Try.prog.cellsOf 34 = 3 := by kernel_rfl
      have f0 : DataW.trod enc Try.prog w base sp held n 3 (([v0, v1, v2].drop 0).take (Try.prog.cellsOf 3)) = some y0 := hfs 0 _ rfl
      have f1 : DataW.trod enc Try.prog w base sp held n 2 (([v0, v1, v2].drop 1).take (Try.prog.cellsOf 2)) = some y1 := hfs 1 _ rfl
      have f2 : DataW.trod enc Try.prog w base sp held n 32 (([v0, v1, v2].drop 2).take (Try.prog.cellsOf 32)) = some y2 := hfs 2 _ rfl
      rw [e0] at f0
      rw [e1] at f1
      rw [e2] at f2
      obtain ⟨a0, h0, _, w0⟩ := DataW.trod_int Try.underlying3 f0
      obtain ⟨a1, h1, _, w1⟩ := DataW.trod_int Try.underlying2 f1
      obtain rfl : v0 = .int .i64 a0 := by simpa using h0
      obtain rfl : v1 = .int .i64 a1 := by simpa using h1
      rcases DataW.trod_slice Try.underlying32 f2 with ⟨hc2, _⟩ | ⟨A, len, cap, elems, rest, m, hm, hc2, _, _, hl, hmx, hlen2, hel, _, _⟩
      · obtain rfl : v2 = .slice none 0 0 := by simpa using hc2
        refine ⟨⟨a0, a1, []⟩, k34_mk w ⟨a0, a1, []⟩ (Nat.le_refl _) (Kd.C_nil _ _), .mk _ _ _ (wf_I64 w0) (wf_I64 w1) (by simp) (fun x hx => by cases hx)⟩
      · obtain rfl : v2 = .slice (some A) len cap := by simpa using hc2
        have hmx2 : maxLen ≤ 9223372036854775807 := by decide
        obtain ⟨l, hll, hls⟩ := choose_list (Q := fun i e => ∃ c, w.cells? base (A.add (i * 3)) 3 = some c ∧ k34.K w e c ∧ wfE e) len (fun i hi => by
          have h3 := hel i hi
          rw [List.getElem?_eq_getElem (by omega), Option.bind_eq_some_iff] at h3
          obtain ⟨c, hc, hy⟩ := h3
          obtain ⟨e, hK, hw⟩ := ih _ (by omega) _ _ _ _ _ _ hy
          rw [e3] at hc
          exact ⟨e, c, hc, hK, hw⟩)
        have hC : Kd.C k34 w (some A) l.length l := by
          refine ⟨rfl, by omega, fun _ => ⟨A, rfl, fun j p hj => ?_⟩⟩
          obtain ⟨c, h3, h4, _⟩ := hls j p hj
          have h5 := World.cells?_some h3
          refine ⟨c, h5.2.1, h4, fun i u hu => ?_⟩
          have hi : i < 3 := by have := (List.getElem?_eq_some_iff.1 hu).1; have := h5.2.1; omega
          rw [show (Kd.sz k34) = 3 from rfl, ← Opn.add_add, h5.2.2 i hi, hu]
        subst hll
        refine ⟨⟨a0, a1, l⟩, k34_mk w ⟨a0, a1, l⟩ hl hC, .mk _ _ _ (wf_I64 w0) (wf_I64 w1) (show l.length ≤ 9223372036854775807 by omega) (fun x hx => ?_)⟩
        obtain ⟨i, hi, rfl⟩ := List.getElem_of_mem hx
        obtain ⟨_, _, _, h6⟩ := hls i _ (List.getElem?_eq_getElem hi)
        exact h6
  intro w base sp held fuel cs x h
  exact key fuel fuel (Nat.le_refl _) w base sp held cs x h
end Go.Proofs.Ytlandgbhbfdekaa.Ex
namespace Go.Proofs.Ytlandgbhbfdekaa.Ex
open Go Go.RowKit Go.Proofs.YtlandgbhbfdekaaW.PrintWords Go.Proofs.Ytlandgbhbfdekaa.Opn
set_option linter.unusedVariables false
set_option linter.unusedSimpArgs false
theorem Opens.mono {H : Type} {enc : TypeId × Value → H} {P : Program} {α : Type} {d : Kd α} {t : TypeId} {G G' : α → DataW H → Prop} (h : Opens enc P d t G) (hg : ∀ a x, G a x → G' a x) : Opens enc P d t G' := by
  intro w base sp held fuel cs x hx
  obtain ⟨a, h1, h2⟩ := h w base sp held fuel cs x hx
  exact ⟨a, h1, hg _ _ h2⟩
def vxOk (v : S37) : Prop := I64 v.f0 ∧ (v.f1.length ≤ maxLen ∧ ∀ x ∈ v.f1, I64 x) ∧ wfE v.f2 ∧ I64 v.f3
theorem slice_ints {H : Type} {l : List Int} {x : DataW H} (h : GSlice (GInt .i64) l x) : l.length ≤ maxLen ∧ ∀ n ∈ l, I64 n := by
  obtain ⟨h0, h⟩ := h
  refine ⟨h0, fun n hn => ?_⟩
  rcases h with ⟨rfl, _⟩ | ⟨ds, rest, _, hl, h⟩
  · cases hn
  · obtain ⟨i, hi, rfl⟩ := List.getElem_of_mem hn
    exact wf_I64 (h i _ _ (List.getElem?_eq_getElem hi) (List.getElem?_eq_getElem (by omega))).2
theorem opens_V {H : Type} {enc : TypeId × Value → H} : Opens enc Try.prog k37 37 (fun v _ => vxOk v) := by
  have h := opens_iso (enc := enc) (P := Try.prog) (fun x : S37 => (x.f0, x.f1, x.f2, x.f3)) (fun a => (⟨a.1, a.2.1, a.2.2.1, a.2.2.2⟩ : S37)) (fun _ => rfl)
    (opens_struct (enc := enc) Try.underlying37 rfl (by kernel_rfl) (opensF_cons (off' := 1) rfl (by kernel_rfl) rfl (opens_int Try.underlying3)
      (opensF_cons (off' := 2) rfl (by kernel_rfl) rfl (opens_slice (e' := 3) Try.underlying35 (opens_int Try.underlying3) (by kernel_rfl))
      (opensF_cons (off' := 5) rfl (by kernel_rfl) rfl opens_E (opensF_one rfl (by kernel_rfl) (opens_int Try.underlying2))))))
  refine Opens.mono h (fun v x hx => ?_)
  obtain ⟨l, _, y, t, _, ⟨_, h1⟩, y2, t2, _, h2, y3, t3, _, h3, y4, _, ⟨_, h4⟩⟩ := hx
  exact ⟨wf_I64 h1, slice_ints h2, h3, wf_I64 h4⟩
end Go.Proofs.Ytlandgbhbfdekaa.Ex
namespace Go.Proofs.Ytlandgbhbfdekaa.Ex
open Go Go.RowKit Go.Proofs.YtlandgbhbfdekaaW.PrintWords Go.Proofs.Ytlandgbhbfdekaa.Opn
set_option linter.unusedVariables false
set_option linter.unusedSimpArgs false
/-- How many vertices the datum has. -/
def topoLen {H : Type} (l : List Vx) (x : DataW H) : Prop := ∃ y z, x = .agg [y, z] ∧ ((y = .nil ∧ l = []) ∨ ∃ ds rest, y = .slice ds rest ∧ ds.length = l.length)
theorem opens_LV {H : Type} {enc : TypeId × Value → H} : Opens enc Try.prog (Kd.slice 37 k37) 22 (GSlice (fun (v : Vx) _ => vxOk v)) := opens_slice (e' := 37) Try.underlying22 opens_V (by kernel_rfl)
theorem vx_all {H : Type} {l : List Vx} {x : DataW H} (h : GSlice (fun (v : Vx) _ => vxOk v) l x) : ∀ v ∈ l, vxOk v := by
  obtain ⟨h0, h⟩ := h
  intro n hn
  rcases h with ⟨rfl, _⟩ | ⟨ds, rest, _, hl, h⟩
  · cases hn
  · obtain ⟨i, hi, rfl⟩ := List.getElem_of_mem hn
    exact h i _ _ (List.getElem?_eq_getElem hi) (List.getElem?_eq_getElem (by omega))
theorem opens_T {H : Type} {enc : TypeId × Value → H} : Opens enc Try.prog (Kd.pair (Kd.slice 37 k37) (Kd.int .i64)) 24 (fun t x => (∀ v ∈ t.1, vxOk v) ∧ topoLen t.1 x) := by
  have h := opens_struct (enc := enc) Try.underlying24 rfl (by kernel_rfl) (opensF_cons (off' := 1) rfl (by kernel_rfl) rfl opens_LV (opensF_one rfl (by kernel_rfl) (opens_int Try.underlying3)))
  refine Opens.mono h (fun t x hx => ?_)
  obtain ⟨l, hl, y, r, hr, h1, z, hz, _⟩ := hx
  refine ⟨vx_all h1, y, z, by rw [hl, hr, hz], ?_⟩
  rcases h1.2 with ⟨h2, h3⟩ | ⟨ds, rest, h2, h3, _⟩
  · exact .inl ⟨h3, h2⟩
  · exact .inr ⟨ds, rest, h2, h3⟩
theorem topo_len {H : Type} {ts : List TypeId} {ds : List (DataW H)} {d : DataW H} {l : List Vx} (hsz : (DataW.weightsEach Try.prog (24 :: ts) (d :: ds)).all (· ≤ reachBytes) = true) (hg : topoLen l d) : l.length ≤ 1759218604441 := by
  obtain ⟨y, z, rfl, h⟩ := hg
  rcases h with ⟨_, rfl⟩ | ⟨es, rest, rfl, h⟩
  · simp
  · have hb : Try.prog.bytesOf 37 = 80 := by kernel_rfl
    have hm : (es.length + rest.length) * 80 ∈ DataW.weightsEach Try.prog (24 :: ts) (.agg [.slice es rest, z] :: ds) := by
      rw [DataW.weightsEach, DataW.weights, Try.underlying24]
      simp only [List.map_cons, List.map_nil]
      rw [DataW.weightsEach, DataW.weights, Try.underlying22]
      simp [hb]
    have := List.all_eq_true.1 hsz _ hm
    simp only [decide_eq_true_eq] at this
    have hr : reachBytes = 140737488351232 := rfl
    omega
end Go.Proofs.Ytlandgbhbfdekaa.Ex
namespace Go.Proofs.Ytlandgbhbfdekaa.Ex
open Go Go.RowKit Go.Proofs.YtlandgbhbfdekaaW.PrintWords Go.Proofs.YtlandgbhbfdekaaW.PrintLast Go.Proofs.YtlandgbhbfdekaaW.PrintMore
set_option linter.unusedVariables false
set_option linter.unusedSimpArgs false
theorem ctCount_l0 (l : List E) (x0 x1 : Int) (hl : l.length ≤ 9223372036854775807) (g : E → Int) (hf : ∀ x ∈ l, Ev (fun k => tidemillref04_Count.f k x.f0 x.f1 x.f2) (g x)) :
    ∀ (r i : Nat) (n : Int), i + r = l.length → Ev (fun k => tidemillref04_Count.l0 k n (i : Int) x0 x1 l) ((l.drop i).foldl (fun n x => wrap64 (n + g x)) n) := by
  intro r
  induction r with
  | zero =>
    intro i n hi
    rw [List.drop_of_length_le (by omega)]
    refine Ev.step (f := fun _ => some n) (fun k => ?_) (Ev.now _)
    simp only [tidemillref04_Count.l0]
    rw [if_neg (by omega)]
  | succ r ih =>
    intro i n hi
    have hlt : i < l.length := by omega
    rw [drop_rd hlt]
    refine Ev.step (f := fun k => (tidemillref04_Count.f k (rd_T34 l (i : Int)).f0 (rd_T34 l (i : Int)).f1 (rd_T34 l (i : Int)).f2).bind fun t => tidemillref04_Count.l0 k (wrap64 (n + t)) ((i + 1 : Nat) : Int) x0 x1 l) (fun k => ?_) ?_
    · simp only [tidemillref04_Count.l0]
      rw [if_pos (by omega), if_pos (by omega), wsucc (by omega)]
    · exact Ev.bind (hf _ (rd_mem hlt)) (ih (i + 1) _ (by omega))
theorem ctCount_any : ∀ e, wfE e → ∃ c, Ev (fun k => tidemillref04_Count.f k e.f0 e.f1 e.f2) c := by
  refine E_ind (fun e ih hw => ?_)
  have h := hw.out
  have hc : ∀ x, ∃ c : Int, x ∈ e.f2 → Ev (fun k => tidemillref04_Count.f k x.f0 x.f1 x.f2) c := fun x => by
    by_cases hx : x ∈ e.f2
    · obtain ⟨c, hc⟩ := ih x hx (h.2.2.2 x hx)
      exact ⟨c, fun _ => hc⟩
    · exact ⟨0, fun hx' => absurd hx' hx⟩
  have h2 := ctCount_l0 e.f2 e.f0 e.f1 h.2.2.1 (fun x => Classical.choose (hc x)) (fun x hx => Classical.choose_spec (hc x) hx) e.f2.length 0 1 (by omega)
  rw [List.drop_zero] at h2
  exact ⟨_, Ev.step (f := fun k => tidemillref04_Count.l0 k 1 ((0 : Nat) : Int) e.f0 e.f1 e.f2) (fun k => by simp only [tidemillref04_Count.f]; rfl) h2⟩
theorem ctWrap {i : Nat} (h : i < 9223372036854775807) : wrap64 ((i : Int) + 1) = ((i + 1 : Nat) : Int) := by unfold wrap64; omega
theorem ctVmem {l : List Vx} {i : Nat} (h : i < l.length) : vAt l (i : Int) ∈ l := by rw [vAt_get h]; exact List.getElem_mem _
theorem ctSmall_l0 (l : List Vx) (p : Int) (hw : ∀ v ∈ l, wfE v.f2) (hl : l.length ≤ 1759218604441) : ∀ (d i : Nat) (n : Int), i + d = l.length → ∃ b, Ev (fun k => tidemilllaw16_small.l0 k n (i : Int) l p) b := by
  intro d
  induction d with
  | zero =>
    intro i n hi
    refine ⟨decide (n ≤ 5000), Ev.step (f := fun _ => some (decide (n ≤ 5000))) (fun k => ?_) (Ev.now _)⟩
    simp only [tidemilllaw16_small.l0]
    rw [if_neg (by omega)]
  | succ d ih =>
    intro i n hi
    have hlt : i < l.length := by omega
    by_cases hn : n ≤ 5000
    · obtain ⟨c, hc⟩ := ctCount_any (vAt l (i : Int)).f2 (hw _ (ctVmem hlt))
      obtain ⟨b, hb⟩ := ih (i + 1) (wrap64 (n + c)) (by omega)
      refine ⟨b, Ev.step (f := fun k => (tidemillref04_Count.f k (vAt l (i : Int)).f2.f0 (vAt l (i : Int)).f2.f1 (vAt l (i : Int)).f2.f2).bind fun t167 => tidemilllaw16_small.l0 k (wrap64 (n + t167)) ((i + 1 : Nat) : Int) l p) (fun k => ?_) (Ev.bind hc hb)⟩
      simp only [tidemilllaw16_small.l0]
      rw [if_pos (by omega), if_pos hn, if_pos (by omega), show rd_T37 l (i : Int) = vAt l (i : Int) from rfl, ctWrap (by omega)]
    · refine ⟨decide (n ≤ 5000), Ev.step (f := fun _ => some (decide (n ≤ 5000))) (fun k => ?_) (Ev.now _)⟩
      simp only [tidemilllaw16_small.l0]
      rw [if_pos (by omega), if_neg hn]
theorem ctSmall (l : List Vx) (p : Int) (hw : ∀ v ∈ l, wfE v.f2) (hl : l.length ≤ 1759218604441) : ∃ b, Ev (fun k => tidemilllaw16_small.f k l p) b := ctSmall_l0 l p hw hl l.length 0 0 (by omega)
theorem ctShown40 : tidemilllaw16_shown.f 40 = some true := by decide +kernel
theorem ctShown : Ev (fun k => tidemilllaw16_shown.f k) true := Ev.of (fun k => tidemilllaw16_shown.mono k) ctShown40
theorem ctOkV {l : List Vx} (h : ∀ v ∈ l, I64 v.f3) : okV l = true := by
  unfold okV
  rw [List.all_eq_true]
  intro v hv
  have := h v hv
  unfold I64 at this
  simpa using this
theorem ctCheck {l : List Vx} (h : ∀ v ∈ l, I64 v.f3) (p : Int) : topo_Check.f l p = some (checkOf l p) := by unfold topo_Check.f; rw [if_pos (ctOkV h)]
theorem ctParts {l : List Vx} (h : ∀ v ∈ l, I64 v.f3) (p : Int) : cut_Parts.f l p = some (if (checkOf l p).2 = 0 then partsOf l else [], (checkOf l p).2) := parts_f l p (ctOkV h) rfl
theorem ctPos {l : List Vx} {p : Int} (h : (checkOf l p).2 = 0) : 1 ≤ p ∧ p ≤ 8 ∧ 0 < l.length ∧ l.length ≤ 24 := by
  unfold checkOf at h
  by_cases h1 : p < 1 ∨ 8 < p ∨ l.length = 0 ∨ 24 < l.length
  · rw [if_pos h1] at h; exact absurd h (by decide)
  omega
/-- A key's partition. -/
theorem ctMod {a p : Int} (h1 : 1 ≤ p) (h2 : p ≤ 8) : Int.tmod (wrap64 (Int.tmod a p + p)) p = a % p := by
  have e := Int.tmod_def a p
  have hlt := Int.tmod_lt_of_pos a (show 0 < p by omega)
  have hgt : -p < Int.tmod a p := by
    have := Int.lt_tmod_of_pos a (show 0 < p by omega)
    exact this
  have hw : wrap64 (Int.tmod a p + p) = Int.tmod a p + p := by unfold wrap64; omega
  rw [hw, Int.tmod_eq_emod_of_nonneg (by omega), Int.add_emod_right, e, Int.sub_mul_emod_self_left]
theorem ctPart {l : List Vx} (h : ∀ v ∈ l, I64 v.f3) (p a : Int) : cut_Part.f l p a = some (if (checkOf l p).2 = 0 then a % p else -1) := by
  unfold cut_Part.f cut_may.f
  rw [ctCheck h, Option.bind_some, Option.bind_some]
  by_cases h0 : (checkOf l p).2 = 0
  · have hp := ctPos h0
    rw [if_pos (by simpa using h0), if_neg (by omega), if_pos h0, ctMod hp.1 hp.2.1]
  · rw [if_neg (by simpa using h0), if_neg h0]
end Go.Proofs.Ytlandgbhbfdekaa.Ex
namespace Go.Proofs.Ytlandgbhbfdekaa.Ex
open Go Go.RowKit Go.Proofs.YtlandgbhbfdekaaW.PrintWords Go.Proofs.YtlandgbhbfdekaaW.PrintLast Go.Proofs.YtlandgbhbfdekaaW.PrintMore
set_option linter.unusedVariables false
set_option linter.unusedSimpArgs false
/-! ### how many -/
theorem count_l0 (l : List E) (x0 x1 : Int) (hl : l.length ≤ 9223372036854775807) (g : E → Int) (hf : ∀ x ∈ l, Ev (fun k => tidemillref04_Count.f k x.f0 x.f1 x.f2) (g x)) :
    ∀ (r i : Nat) (n : Int), i + r = l.length → Ev (fun k => tidemillref04_Count.l0 k n (i : Int) x0 x1 l) ((l.drop i).foldl (fun n x => wrap64 (n + g x)) n) := by
  intro r
  induction r with
  | zero =>
    intro i n hi
    rw [List.drop_of_length_le (by omega)]
    refine Ev.step (f := fun _ => some n) (fun k => ?_) (Ev.now _)
    simp only [tidemillref04_Count.l0]
    rw [if_neg (by omega)]
  | succ r ih =>
    intro i n hi
    have hlt : i < l.length := by omega
    rw [drop_rd hlt]
    refine Ev.step (f := fun k => (tidemillref04_Count.f k (rd_T34 l (i : Int)).f0 (rd_T34 l (i : Int)).f1 (rd_T34 l (i : Int)).f2).bind fun t => tidemillref04_Count.l0 k (wrap64 (n + t)) ((i + 1 : Nat) : Int) x0 x1 l) (fun k => ?_) ?_
    · simp only [tidemillref04_Count.l0]
      rw [if_pos (by omega), if_pos (by omega), wsucc (by omega)]
    · exact Ev.bind (hf _ (rd_mem hlt)) (ih (i + 1) _ (by omega))
theorem count_ev (e : E) (hl : e.f2.length ≤ 9223372036854775807) (g : E → Int) (hf : ∀ x ∈ e.f2, Ev (fun k => tidemillref04_Count.f k x.f0 x.f1 x.f2) (g x)) : Ev (fun k => tidemillref04_Count.f k e.f0 e.f1 e.f2) (e.f2.foldl (fun n x => wrap64 (n + g x)) 1) := by
  refine Ev.step (f := fun k => tidemillref04_Count.l0 k 1 ((0 : Nat) : Int) e.f0 e.f1 e.f2) (fun k => by simp only [tidemillref04_Count.f]; rfl) ?_
  have := count_l0 e.f2 e.f0 e.f1 hl g hf e.f2.length 0 1 (by omega)
  rwa [List.drop_zero] at this
theorem count_any : ∀ e, wfE e → ∃ c, Ev (fun k => tidemillref04_Count.f k e.f0 e.f1 e.f2) c := by
  refine E_ind (fun e ih hw => ?_)
  have h := hw.out
  have hc : ∀ x, ∃ c : Int, x ∈ e.f2 → Ev (fun k => tidemillref04_Count.f k x.f0 x.f1 x.f2) c := fun x => by
    by_cases hx : x ∈ e.f2
    · obtain ⟨c, hc⟩ := ih x hx (h.2.2.2 x hx)
      exact ⟨c, fun _ => hc⟩
    · exact ⟨0, fun hx' => absurd hx' hx⟩
  exact ⟨_, count_ev e h.2.2.1 (fun x => Classical.choose (hc x)) (fun x hx => Classical.choose_spec (hc x) hx)⟩
theorem fold_cnt (f : E → Nat) : ∀ (l : List E) (n : Nat), n + cntL f l ≤ 9223372036854775807 → l.foldl (fun (n : Int) x => wrap64 (n + (f x : Int))) (n : Int) = ((n + cntL f l : Nat) : Int) := by
  intro l
  induction l with
  | nil => intro n _; rfl
  | cons x xs ih =>
    intro n h
    unfold cntL at h ⊢
    rw [List.foldl_cons, show wrap64 ((n : Int) + (f x : Int)) = ((n + f x : Nat) : Int) by unfold wrap64; omega, ih (n + f x) (by omega)]
    congr 1
    omega
theorem count_ok : ∀ d : Nat, d ≤ 16 → ∀ e, okB d e = true → Ev (fun k => tidemillref04_Count.f k e.f0 e.f1 e.f2) (cnt d e : Int) := by
  intro d
  induction d with
  | zero => intro _ e h; simp [okB] at h
  | succ d ih =>
    intro hd e h
    have hs := okB_succ h
    have h1 := cnt_le _ _ h
    have h4 : 4 ^ (d + 1) ≤ 4 ^ 16 := Nat.pow_le_pow_right (by omega) hd
    have h5 : (4 : Nat) ^ 16 = 4294967296 := by decide
    have hk := kidsOf_le e.f0
    have := count_ev e (by omega) (fun x => (cnt d x : Int)) (fun x hx => ih (by omega) x (hs.2 x hx))
    have hn : cnt (d + 1) e = 1 + cntL (cnt d) e.f2 := rfl
    rw [show (1 : Int) = ((1 : Nat) : Int) from rfl, fold_cnt (cnt d) e.f2 1 (by omega)] at this
    exact this
/-! ### how deep -/
theorem deep_l0 (d : Nat) (hd : d ≤ 16) (l : List E) (x0 x1 : Int) (hl : l.length ≤ 9223372036854775807) (hf : ∀ x ∈ l, Ev (fun k => tidemillref04_deep.f k x.f0 x.f1 x.f2 (d : Int)) (okB d x)) :
    ∀ (r i : Nat), i + r = l.length → Ev (fun k => tidemillref04_deep.l0 k ((d + 1 : Nat) : Int) (i : Int) x0 x1 l) ((l.drop i).all (okB d)) := by
  intro r
  induction r with
  | zero =>
    intro i hi
    rw [List.drop_of_length_le (by omega)]
    refine Ev.step (f := fun _ => some true) (fun k => ?_) (Ev.now _)
    simp only [tidemillref04_deep.l0]
    rw [if_neg (by omega)]
  | succ r ih =>
    intro i hi
    have hlt : i < l.length := by omega
    rw [drop_rd hlt, List.all_cons]
    refine Ev.step (f := fun k => (tidemillref04_deep.f k (rd_T34 l (i : Int)).f0 (rd_T34 l (i : Int)).f1 (rd_T34 l (i : Int)).f2 (d : Int)).bind fun t => if t = true then tidemillref04_deep.l0 k ((d + 1 : Nat) : Int) ((i + 1 : Nat) : Int) x0 x1 l else some false) (fun k => ?_) ?_
    · simp only [tidemillref04_deep.l0]
      rw [if_pos (by omega), if_pos (by omega), wsucc (by omega), show wrap64 (((d + 1 : Nat) : Int) - 1) = (d : Int) by unfold wrap64; omega]
    · refine Ev.bind (hf _ (rd_mem hlt)) ?_
      cases okB d (rd_T34 l (i : Int)) with
      | false => exact Ev.now _
      | true => exact ih (i + 1) (by omega)
theorem kids_ref (a : Int) : tidemillref04_Kids.f a = some (kidsOf a) := by
  unfold tidemillref04_Kids.f kidsOf
  split
  · rfl
  · split
    · rename_i h1 h2
      rw [if_neg (by omega)]
    · split <;> rfl
theorem deep_ev : ∀ d : Nat, d ≤ 16 → ∀ e, Ev (fun k => tidemillref04_deep.f k e.f0 e.f1 e.f2 (d : Int)) (okB d e) := by
  intro d
  have hj : ∀ (x1 : Int) (a b : Int) (l : List E), Ev (fun k => tidemillref04_deep.j0 k x1 true a b l) false := fun x1 a b l =>
    Ev.step (f := fun _ => some false) (fun k => by simp [tidemillref04_deep.j0]) (Ev.now _)
  induction d with
  | zero =>
    intro _ e
    refine Ev.step (f := fun k => tidemillref04_deep.j0 k 0 true e.f0 e.f1 e.f2) (fun k => ?_) (hj ..)
    simp [tidemillref04_deep.f]
  | succ d ih =>
    intro hd e
    have hne : ¬ ((d + 1 : Nat) : Int) = 0 := by omega
    by_cases hc : (1 ≤ e.f0 ∧ e.f0 ≤ 16) ∧ kidsOf e.f0 = (e.f2.length : Int) ∧ (e.f1 = 0 ∨ e.f0 = 1)
    · have hb : okB (d + 1) e = e.f2.all (okB d) := by
        show (decide _ && e.f2.all (okB d)) = _
        rw [decide_eq_true hc, Bool.true_and]
      rw [hb]
      refine Ev.step (f := fun k => tidemillref04_deep.j0 k ((d + 1 : Nat) : Int) false e.f0 e.f1 e.f2) (fun k => ?_) ?_
      · simp only [tidemillref04_deep.f, kids_ref, Option.bind_some]
        rw [if_neg hne, if_neg (by omega), if_neg (by omega), if_pos hc.2.1.symm]
        by_cases hn : e.f1 = 0
        · rw [if_pos hn]
        · rw [if_neg hn]
          have : e.f0 = 1 := by rcases hc.2.2 with h | h; · exact absurd h hn
                                · exact h
          rw [this]
          rfl
      · refine Ev.step (f := fun k => tidemillref04_deep.l0 k ((d + 1 : Nat) : Int) ((0 : Nat) : Int) e.f0 e.f1 e.f2) (fun k => ?_) ?_
        · simp [tidemillref04_deep.j0]
        · have hk := kidsOf_le e.f0
          have := deep_l0 d (by omega) e.f2 e.f0 e.f1 (by omega) (fun x _ => ih (by omega) x) e.f2.length 0 (by omega)
          rwa [List.drop_zero] at this
    · have hb : okB (d + 1) e = false := by
        show (decide _ && e.f2.all (okB d)) = _
        rw [decide_eq_false hc, Bool.false_and]
      rw [hb]
      refine Ev.step (f := fun k => tidemillref04_deep.j0 k ((d + 1 : Nat) : Int) true e.f0 e.f1 e.f2) (fun k => ?_) (hj ..)
      simp only [tidemillref04_deep.f, kids_ref, Option.bind_some]
      rw [if_neg hne]
      by_cases h1 : e.f0 < 1
      · rw [if_pos h1]
      · rw [if_neg h1]
        by_cases h2 : e.f0 > 16
        · rw [if_pos h2]
        · rw [if_neg h2]
          by_cases h3 : (e.f2.length : Int) = kidsOf e.f0
          · rw [if_pos h3]
            have h4 : ¬ (e.f1 = 0 ∨ e.f0 = 1) := fun h => hc ⟨⟨by omega, by omega⟩, h3.symm, h⟩
            rw [if_neg (fun h => h4 (.inl h))]
            have : (e.f0 != 1) = true := by simp; exact fun h => h4 (.inr h)
            rw [this]
          · rw [if_neg h3]
theorem refMay_ev (e : E) : Ev (fun k => tidemillref04_May.f k e.f0 e.f1 e.f2) (mayB e) := by
  unfold tidemillref04_May.f
  refine Ev.bind (deep_ev 16 (by omega) e) ?_
  rw [mayB_iff]
  cases h : okB 16 e with
  | false => exact Ev.now _
  | true =>
    refine Ev.bind (count_ok 16 (by omega) e h) ?_
    have : decide ((cnt 16 e : Int) ≤ 64) = decide (cnt 16 e ≤ 64) := decide_eq_decide.2 (by omega)
    simp only [this, Bool.true_and]
    exact Ev.now _
theorem refUses_l0 (op : Int) (l : List E) (x0 x1 : Int) (hl : l.length ≤ 9223372036854775807) (g : E → Bool) (hf : ∀ x ∈ l, Ev (fun k => tidemillref04_Uses.f k x.f0 x.f1 x.f2 op) (g x)) :
    ∀ (r i : Nat) (b : Bool), i + r = l.length → Ev (fun k => tidemillref04_Uses.l0 k op b (i : Int) x0 x1 l) (b || (l.drop i).any g) := by
  intro r
  induction r with
  | zero =>
    intro i b hi
    rw [List.drop_of_length_le (by omega)]
    refine Ev.step (f := fun _ => some (b || false)) (fun k => ?_) (Ev.now _)
    simp only [tidemillref04_Uses.l0]
    rw [if_neg (by omega), Bool.or_false]
  | succ r ih =>
    intro i b hi
    have hlt : i < l.length := by omega
    rw [drop_rd hlt, List.any_cons]
    refine Ev.step (f := fun k => (tidemillref04_Uses.f k (rd_T34 l (i : Int)).f0 (rd_T34 l (i : Int)).f1 (rd_T34 l (i : Int)).f2 op).bind fun t => if b = true then tidemillref04_Uses.l0 k op true ((i + 1 : Nat) : Int) x0 x1 l else tidemillref04_Uses.l0 k op t ((i + 1 : Nat) : Int) x0 x1 l) (fun k => ?_) ?_
    · simp only [tidemillref04_Uses.l0]
      rw [if_pos (by omega), if_pos (by omega), wsucc (by omega)]
    · refine Ev.bind (hf _ (rd_mem hlt)) ?_
      cases b with
      | true =>
        have := ih (i + 1) true (by omega)
        simpa using this
      | false => 
        have := ih (i + 1) (g (rd_T34 l (i : Int))) (by omega)
        simpa using this
theorem refUsesB_ev : ∀ (d : Nat) (e : E), okB d e = true → Ev (fun k => tidemillref04_Uses.f k e.f0 e.f1 e.f2 5) (usesB d e) := by
  intro d
  induction d with
  | zero => intro e h; simp [okB] at h
  | succ d ih =>
    intro e h
    have hs := okB_succ h
    have hk := kidsOf_le e.f0
    unfold usesB
    refine Ev.step (f := fun k => tidemillref04_Uses.l0 k 5 (e.f0 == 5) ((0 : Nat) : Int) e.f0 e.f1 e.f2) (fun k => by simp only [tidemillref04_Uses.f]; rfl) ?_
    have := refUses_l0 5 e.f2 e.f0 e.f1 (by omega) (usesB d) (fun x hx => ih x (hs.2 x hx)) e.f2.length 0 (e.f0 == 5) (by omega)
    rwa [List.drop_zero] at this
end Go.Proofs.Ytlandgbhbfdekaa.Ex
namespace Go.Proofs.Ytlandgbhbfdekaa.Ex
open Go Go.RowKit Go.Proofs.YtlandgbhbfdekaaW.PrintWords Go.Proofs.YtlandgbhbfdekaaW.PrintLast Go.Proofs.YtlandgbhbfdekaaW.PrintMore
set_option linter.unusedVariables false
set_option linter.unusedSimpArgs false
theorem ev_const {α : Type} {g : Option α} {r : α} (h : g = some r) : Ev (fun _ => g) r := ⟨0, fun _ _ => h⟩
theorem two_le (x : Int) : (decide (0 ≤ x) && decide (x ≤ 0)) = (x == 0) := by
  by_cases h : x = 0
  · subst h; rfl
  · have : (x == 0) = false := by simpa using h
    rw [this]
    by_cases h1 : 0 ≤ x
    · rw [decide_eq_false (by omega : ¬ x ≤ 0), Bool.and_false]
    · rw [decide_eq_false h1, Bool.false_and]
theorem fm_one {k : Int} (h : k = 2 ∨ k = 3 ∨ k = 4 ∨ k = 5) : fmOf k = ⟨1, true, false, 0, 0, false⟩ := by rcases h with rfl | rfl | rfl | rfl <;> rfl
theorem fm_span {k : Int} (h : k = 7 ∨ k = 8) : fmOf k = ⟨1, true, true, 1, 1048576, false⟩ := by rcases h with rfl | rfl <;> rfl
theorem has_src (f1 : List Int) (c : Int) (z : Bool) (f3 : Int) : (if (f1.length : Int) = c then (if z = true then (if f3 ≥ 0 then (some (decide (f3 ≤ 7))) else (some false)) else (some false)) else (some false)) = some (((f1.length : Int) == c) && (z && (decide (0 ≤ f3) && decide (f3 ≤ 7)))) := by
  by_cases h1 : (f1.length : Int) = c
  · rw [if_pos h1, show ((f1.length : Int) == c) = true by simpa using h1, Bool.true_and]
    cases z with
    | false => rfl
    | true =>
      rw [if_pos rfl, Bool.true_and]
      by_cases h2 : f3 ≥ 0
      · rw [if_pos h2, decide_eq_true (show 0 ≤ f3 from h2), Bool.true_and]
      · rw [if_neg h2, decide_eq_false (show ¬ 0 ≤ f3 from h2), Bool.false_and]
  · rw [if_neg h1, show ((f1.length : Int) == c) = false by simpa using h1, Bool.false_and]
theorem has_agg (n c : Int) (m : Bool) (f3 : Int) : (if n = c then (if m = true then (some (f3 == 0)) else (some false)) else (some false)) = some ((n == c) && (m && (decide (0 ≤ f3) && decide (f3 ≤ 0)))) := by
  rw [two_le]
  by_cases h1 : n = c
  · rw [if_pos h1, show (n == c) = true by simpa using h1, Bool.true_and]
    cases m <;> rfl
  · rw [if_neg h1, show (n == c) = false by simpa using h1, Bool.false_and]
theorem has_span (n : Int) (m : Bool) (f3 : Int) : (if n = 1 then (if m = true then (if f3 ≥ 1 then (some (decide (f3 ≤ 1048576))) else (some false)) else (some false)) else (some false)) = some ((n == 1) && (m && (decide (1 ≤ f3) && decide (f3 ≤ 1048576)))) := by
  by_cases h1 : n = 1
  · rw [if_pos h1, show (n == 1) = true by simpa using h1, Bool.true_and]
    cases m with
    | false => rfl
    | true =>
      rw [if_pos rfl, Bool.true_and]
      by_cases h2 : f3 ≥ 1
      · rw [if_pos h2, decide_eq_true (show 1 ≤ f3 from h2), Bool.true_and]
      · rw [if_neg h2, decide_eq_false (show ¬ 1 ≤ f3 from h2), Bool.false_and]
  · rw [if_neg h1, show (n == 1) = false by simpa using h1, Bool.false_and]
/-- Behind the five kinds that stand alone. -/
theorem has_j1 (v : Vx) (x30 : Int) (m : Bool) (hm : mayB v.f2 = m) (hk : v.f0 = 2 ∨ v.f0 = 3 ∨ v.f0 = 4 ∨ v.f0 = 5) : Ev (fun k => tidemillref05_Has.j1 k m (v.f1.length : Int) x30 true v.f0 v.f1 v.f2.f0 v.f2.f1 v.f2.f2 v.f3) (hasB (fmOf v.f0) v) := by
  rw [fm_one hk]
  unfold hasB formB
  simp only [if_true]
  rw [hm, two_le, Bool.false_or]
  refine Ev.step (f := fun k => if (v.f1.length : Int) = 1 then (if m = true then (if v.f3 = 0 then ((tidemillref04_Uses.f k v.f2.f0 v.f2.f1 v.f2.f2 5).bind fun t180 => (some (!t180))) else (some false)) else (some false)) else (some false)) (fun k => by simp only [tidemillref05_Has.j1, if_true]) ?_
  by_cases h1 : (v.f1.length : Int) = 1
  · simp only [if_pos h1]
    rw [show ((v.f1.length : Int) == 1) = true by simpa using h1, Bool.true_and]
    cases m with
    | false => exact Ev.now _
    | true =>
      simp only [if_true]
      by_cases h3 : v.f3 = 0
      · simp only [if_pos h3]
        rw [show (v.f3 == 0) = true by simpa using h3, Bool.and_true, Bool.true_and]
        exact Ev.bind (refUsesB_ev 16 v.f2 (mayB_ok hm)) (Ev.now _)
      · simp only [if_neg h3]
        rw [show (v.f3 == 0) = false by simpa using h3, Bool.and_false]
        exact Ev.now _
  · simp only [if_neg h1]
    rw [show ((v.f1.length : Int) == 1) = false by simpa using h1, Bool.false_and]
    exact Ev.now _
theorem has_j0 (v : Vx) (hk : 1 ≤ v.f0 ∧ v.f0 ≤ 10) (z : Bool) (hz : zeroB v.f2 = z) : Ev (fun k => tidemillref05_Has.j0 k z v.f0 v.f1 v.f2.f0 v.f2.f1 v.f2.f2 v.f3) (hasB (fmOf v.f0) v) := by
  refine Ev.step (fun k => by simp only [tidemillref05_Has.j0]; rfl) ?_
  refine Ev.bind (refMay_ev v.f2) ?_
  obtain ⟨m, hm⟩ : ∃ m, mayB v.f2 = m := ⟨_, rfl⟩
  rw [hm]
  by_cases h1 : v.f0 = 1
  · simp only [if_pos h1]
    refine ev_const ?_
    rw [has_src, h1, show fmOf 1 = ⟨0, false, false, 0, 7, true⟩ from rfl]
    unfold hasB formB
    rw [if_neg (by decide), hz]
  simp only [if_neg h1]
  by_cases h10 : v.f0 = 10
  · simp only [if_pos h10]
    refine ev_const ?_
    rw [has_src, h10, show fmOf 10 = ⟨1, false, false, 0, 7, true⟩ from rfl]
    unfold hasB formB
    rw [if_neg (by decide), hz]
  simp only [if_neg h10]
  by_cases h2 : v.f0 = 2
  · simp only [if_pos h2]
    rw [show (v.f0 == 2) = true by simpa using h2]
    exact has_j1 v _ m hm (.inl h2)
  simp only [if_neg h2]
  by_cases h3 : v.f0 = 3
  · simp only [if_pos h3]
    rw [show (v.f0 == 3) = true by simpa using h3]
    exact has_j1 v _ m hm (.inr (.inl h3))
  simp only [if_neg h3]
  by_cases h4 : v.f0 = 4
  · simp only [if_pos h4]
    rw [show (v.f0 == 4) = true by simpa using h4]
    exact has_j1 v _ m hm (.inr (.inr (.inl h4)))
  simp only [if_neg h4]
  by_cases h5 : v.f0 = 5
  · rw [show (v.f0 == 5) = true by simpa using h5]
    exact has_j1 v _ m hm (.inr (.inr (.inr h5)))
  rw [show (v.f0 == 5) = false by simpa using h5]
  refine Ev.step (fun k => by simp only [tidemillref05_Has.j1, Bool.false_eq_true, if_false]; rfl) ?_
  by_cases h6 : v.f0 = 6
  · simp only [if_pos h6]
    refine ev_const ?_
    rw [has_agg, h6, show fmOf 6 = ⟨1, true, true, 0, 0, false⟩ from rfl]
    unfold hasB formB
    rw [if_pos rfl, hm, Bool.true_or, Bool.and_true]
  simp only [if_neg h6]
  by_cases h9 : v.f0 = 9
  · simp only [if_pos h9]
    refine ev_const ?_
    rw [has_agg, h9, show fmOf 9 = ⟨2, true, true, 0, 0, false⟩ from rfl]
    unfold hasB formB
    rw [if_pos rfl, hm, Bool.true_or, Bool.and_true]
  simp only [if_neg h9]
  refine ev_const ?_
  rw [has_span, fm_span (by omega)]
  unfold hasB formB
  rw [if_pos rfl, hm, Bool.true_or, Bool.and_true]
theorem refHas_ev (v : Vx) (hk : 1 ≤ v.f0 ∧ v.f0 ≤ 10) : Ev (fun k => tidemillref05_Has.f k v.f0 v.f1 v.f2.f0 v.f2.f1 v.f2.f2 v.f3) (hasB (fmOf v.f0) v) := by
  unfold tidemillref05_Has.f
  by_cases h0 : v.f2.f0 = 0
  · by_cases h1 : v.f2.f1 = 0
    · simp only [if_pos h0, if_pos h1]
      exact has_j0 v hk _ (by unfold zeroB; rw [show (v.f2.f0 == 0) = true by simpa using h0, show (v.f2.f1 == 0) = true by simpa using h1]; rfl)
    · simp only [if_pos h0, if_neg h1]
      exact has_j0 v hk _ (by unfold zeroB; rw [show (v.f2.f1 == 0) = false by simpa using h1, Bool.false_and, Bool.and_false])
  · simp only [if_neg h0]
    exact has_j0 v hk _ (by unfold zeroB; rw [show (v.f2.f0 == 0) = false by simpa using h0, Bool.false_and])
end Go.Proofs.Ytlandgbhbfdekaa.Ex
namespace Go.Proofs.Ytlandgbhbfdekaa.Ex
open Go Go.RowKit Go.Proofs.YtlandgbhbfdekaaW.PrintWords Go.Proofs.YtlandgbhbfdekaaW.PrintLast Go.Proofs.YtlandgbhbfdekaaW.PrintMore
set_option linter.unusedVariables false
set_option linter.unusedSimpArgs false
theorem vAt_rd (l : List Vx) (x : Int) : rd_T37 l x = vAt l x := rfl
theorem vAt_mem {l : List Vx} {i : Nat} (h : i < l.length) : vAt l (i : Int) ∈ l := by rw [vAt_get h]; exact List.getElem_mem _
theorem wrapN {i : Nat} (h : i < 9223372036854775807) : wrap64 ((i : Int) + 1) = ((i + 1 : Nat) : Int) := by unfold wrap64; omega
theorem rd_cons {xs : List Int} {k : Nat} (h : k < xs.length) : xs.drop k = rd xs (k : Int) :: xs.drop (k + 1) := by
  rw [List.drop_eq_getElem_cons h]
  unfold rd
  rw [Int.toNat_natCast, List.getD_eq_getElem?_getD, List.getElem?_eq_getElem h]
  rfl
/-! ### is a number taken -/
def sameB (v u : Vx) : Bool := (u.f0 == v.f0) && ((u.f3 == v.f3) && ((v.f0 == 1) || (v.f0 == 10)))
theorem taken_l0 (l : List Vx) (p : Int) (i : Nat) (hi : i < l.length) (hl : l.length ≤ 24) : ∀ (d j : Nat), j + d = i → Ev (fun k => tidemillref05_taken.l0 k (i : Int) (vAt l (i : Int)).f0 (j : Int) l p) (((l.take i).drop j).any (sameB (vAt l (i : Int)))) := by
  intro d
  induction d with
  | zero =>
    intro j hj
    rw [List.drop_of_length_le (by rw [List.length_take]; omega)]
    refine Ev.step (f := fun _ => some false) (fun k => ?_) (Ev.now _)
    simp only [tidemillref05_taken.l0]
    rw [if_neg (by omega)]
  | succ d ih =>
    intro j hj
    have hjl : j < l.length := by omega
    have hd : (l.take i).drop j = vAt l (j : Int) :: (l.take i).drop (j + 1) := by
      rw [List.drop_eq_getElem_cons (by rw [List.length_take]; omega), vAt_get hjl, List.getElem_take]
    rw [hd, List.any_cons]
    generalize hu : vAt l (j : Int) = u
    generalize hv : vAt l (i : Int) = v
    rw [hv] at ih
    have ih2 := ih (j + 1) (by omega)
    refine Ev.step (f := fun k => if u.f0 = v.f0 then (if u.f3 = v.f3 then (if v.f0 = 1 then (some true) else (if v.f0 = 10 then (some true) else (tidemillref05_taken.l0 k (i : Int) v.f0 ((j + 1 : Nat) : Int) l p))) else (tidemillref05_taken.l0 k (i : Int) v.f0 ((j + 1 : Nat) : Int) l p)) else (tidemillref05_taken.l0 k (i : Int) v.f0 ((j + 1 : Nat) : Int) l p)) (fun k => ?_) ?_
    · simp only [tidemillref05_taken.l0]
      rw [if_pos (by omega), if_pos (by omega), if_pos (by omega), wrapN (by omega), vAt_rd, vAt_rd, hu, hv]
      simp only [if_pos (show (0 : Int) ≤ (i : Int) by omega), if_pos (show (i : Int) < (l.length : Int) by omega)]
    · unfold sameB
      by_cases h1 : u.f0 = v.f0
      · simp only [if_pos h1]
        rw [show (u.f0 == v.f0) = true by simpa using h1, Bool.true_and]
        by_cases h2 : u.f3 = v.f3
        · simp only [if_pos h2]
          rw [show (u.f3 == v.f3) = true by simpa using h2, Bool.true_and]
          by_cases h3 : v.f0 = 1
          · simp only [if_pos h3]
            rw [show (v.f0 == 1) = true by simpa using h3, Bool.true_or, Bool.true_or]
            exact Ev.now _
          · simp only [if_neg h3]
            rw [show (v.f0 == 1) = false by simpa using h3, Bool.false_or]
            by_cases h4 : v.f0 = 10
            · simp only [if_pos h4]
              rw [show (v.f0 == 10) = true by simpa using h4, Bool.true_or]
              exact Ev.now _
            · simp only [if_neg h4]
              rw [show (v.f0 == 10) = false by simpa using h4, Bool.false_or]
              unfold sameB at ih2
              rw [show (v.f0 == 1) = false by simpa using h3, show (v.f0 == 10) = false by simpa using h4] at ih2
              exact ih2
        · simp only [if_neg h2]
          rw [show (u.f3 == v.f3) = false by simpa using h2, Bool.false_and, Bool.false_or]
          exact ih2
      · simp only [if_neg h1]
        rw [show (u.f0 == v.f0) = false by simpa using h1, Bool.false_and, Bool.false_or]
        exact ih2
theorem own_is (k : Int) : (fmOf k).own = ((k == 1) || (k == 10)) := by
  unfold fmOf
  by_cases h1 : k = 1
  · rw [if_pos h1, h1]; rfl
  rw [if_neg h1, show (k == 1) = false by simpa using h1, Bool.false_or]
  by_cases h10 : k = 10
  · rw [h10]; rfl
  rw [show (k == 10) = false by simpa using h10]
  repeat' split
  all_goals first | rfl | omega
/-- Those that were seen are those ahead. -/
def Seen (l : List Vx) (i : Nat) (ks : List (Int × Int)) : Prop := ∀ q, q ∈ ks ↔ ∃ u ∈ l.take i, (u.f0, u.f3) = q
theorem Seen.start (l : List Vx) : Seen l 0 [] := fun q => by simp
theorem Seen.next {l : List Vx} {i : Nat} {ks : List (Int × Int)} (h : Seen l i ks) (hi : i < l.length) : Seen l (i + 1) (((vAt l (i : Int)).f0, (vAt l (i : Int)).f3) :: ks) := fun q => by
  rw [List.mem_cons, h q, List.take_succ_eq_append_getElem hi, vAt_get hi]
  constructor
  · rintro (rfl | ⟨u, hu, rfl⟩)
    · exact ⟨_, List.mem_append.2 (.inr (List.mem_singleton.2 rfl)), rfl⟩
    · exact ⟨u, List.mem_append.2 (.inl hu), rfl⟩
  · rintro ⟨u, hu, rfl⟩
    rcases List.mem_append.1 hu with hu | hu
    · exact .inr ⟨u, hu, rfl⟩
    · obtain rfl : u = l[i] := by simpa using hu
      exact .inl rfl
theorem seen_any {l : List Vx} {i : Nat} {ks : List (Int × Int)} (h : Seen l i ks) (v : Vx) : (l.take i).any (sameB v) = ((fmOf v.f0).own && decide ((v.f0, v.f3) ∈ ks)) := by
  rw [own_is]
  apply Bool.eq_iff_iff.2
  rw [List.any_eq_true, Bool.and_eq_true, decide_eq_true_eq, h]
  constructor
  · rintro ⟨u, hu, hs⟩
    unfold sameB at hs
    simp only [Bool.and_eq_true, beq_iff_eq] at hs
    exact ⟨hs.2.2, u, hu, by rw [hs.1, hs.2.1]⟩
  · rintro ⟨ho, u, hu, he⟩
    injection he with h1 h2
    refine ⟨u, hu, ?_⟩
    unfold sameB
    rw [h1, h2, ho]
    simp
theorem taken_ev (l : List Vx) (p : Int) (i : Nat) (hi : i < l.length) (hl : l.length ≤ 24) (ks : List (Int × Int)) (hk : Seen l i ks) : Ev (fun k => tidemillref05_taken.f k l p (i : Int)) ((fmOf (vAt l (i : Int)).f0).own && decide (((vAt l (i : Int)).f0, (vAt l (i : Int)).f3) ∈ ks)) := by
  unfold tidemillref05_taken.f
  simp only [if_pos (show (0 : Int) ≤ (i : Int) by omega), if_pos (show (i : Int) < (l.length : Int) by omega)]
  rw [← seen_any hk]
  have := taken_l0 l p i hi hl i 0 (by omega)
  rw [List.drop_zero] at this
  exact this
/-! ### a vertex -/
theorem sinks_l1 (l : List Vx) (p : Int) (v : Vx) (hm : v.f1.length ≤ 9223372036854775807) (hx : ∀ x ∈ v.f1, 0 ≤ x ∧ x < (l.length : Int)) (h9 : v.f0 = 9 → v.f1.length = 2) : ∀ (d j : Nat), j + d = v.f1.length →
    Ev (fun k => tidemillref05_vertex.l1 k (j : Int) l p v.f0 v.f1 v.f2.f0 v.f2.f1 v.f2.f2 v.f3) (if (v.f1.drop j).any (sinkB l) = true then 5 else if v.f0 = 9 ∧ (vAt l (rd v.f1 1)).f0 ≠ 6 then 5 else 0) := by
  intro d
  induction d with
  | zero =>
    intro j hj
    rw [List.drop_of_length_le (by omega), List.any_nil, if_neg (by decide)]
    refine Ev.step (f := fun _ => if v.f0 = 9 then (if (vAt l (rd v.f1 1)).f0 = 6 then (some 0) else (some 5)) else (some 0)) (fun k => ?_) (ev_const ?_)
    · simp only [tidemillref05_vertex.l1]
      rw [if_neg (by omega)]
      by_cases h : v.f0 = 9
      · have h2 := h9 h
        have hx1 := hx _ (rd_memI v.f1 1 (by omega))
        change 0 ≤ rd v.f1 1 ∧ rd v.f1 1 < _ at hx1
        rw [if_pos h, if_pos h, if_pos (by omega), if_pos hx1.1, if_pos hx1.2, vAt_rd]
      · rw [if_neg h, if_neg h]
    · by_cases h : v.f0 = 9
      · rw [if_pos h]
        by_cases h6 : (vAt l (rd v.f1 1)).f0 = 6
        · rw [if_pos h6, if_neg (fun hh => hh.2 h6)]
        · rw [if_neg h6, if_pos ⟨h, h6⟩]
      · rw [if_neg h, if_neg (fun hh => h hh.1)]
  | succ d ih =>
    intro j hj
    have hlt : j < v.f1.length := by omega
    have hx1 := hx _ (rd_memI v.f1 j hlt)
    rw [rd_cons hlt, List.any_cons]
    generalize hxx : rd v.f1 (j : Int) = x at hx1
    refine Ev.step (f := fun k => if (vAt l x).f0 = 10 then (some 5) else (tidemillref05_vertex.l1 k ((j + 1 : Nat) : Int) l p v.f0 v.f1 v.f2.f0 v.f2.f1 v.f2.f2 v.f3)) (fun k => ?_) ?_
    · simp only [tidemillref05_vertex.l1]
      rw [if_pos (by omega), if_pos (by omega), hxx, if_pos hx1.1, if_pos hx1.2, vAt_rd, wrapN (by omega)]
    · by_cases h : (vAt l x).f0 = 10
      · simp only [if_pos h]
        rw [show sinkB l x = true by unfold sinkB; simpa using h, Bool.true_or, if_pos rfl]
        exact Ev.now _
      · simp only [if_neg h]
        rw [show sinkB l x = false by unfold sinkB; simpa using h, Bool.false_or]
        exact ih (j + 1) (by omega)
theorem bads_l0 (l : List Vx) (p : Int) (i : Nat) (v : Vx) (hm : v.f1.length ≤ 9223372036854775807) (R : Int) (hR : v.f1.any (badB i) = false → Ev (fun k => (tidemillref05_Has.f k v.f0 v.f1 v.f2.f0 v.f2.f1 v.f2.f2 v.f3).bind fun t191 => (if t191 = true then ((tidemillref05_taken.f k l p (i : Int)).bind fun t192 => (if t192 = true then (some 12) else (tidemillref05_vertex.l1 k 0 l p v.f0 v.f1 v.f2.f0 v.f2.f1 v.f2.f2 v.f3))) else (some 5))) R) : ∀ (d j : Nat), j + d = v.f1.length → (v.f1.take j).any (badB i) = false →
    Ev (fun k => tidemillref05_vertex.l0 k (i : Int) (j : Int) l p v.f0 v.f1 v.f2.f0 v.f2.f1 v.f2.f2 v.f3) (if v.f1.any (badB i) = true then 2 else R) := by
  intro d
  induction d with
  | zero =>
    intro j hj hb
    rw [List.take_of_length_le (by omega)] at hb
    rw [hb, if_neg (by decide)]
    refine Ev.step (fun k => ?_) (hR hb)
    simp only [tidemillref05_vertex.l0]
    rw [if_neg (by omega)]
  | succ d ih =>
    intro j hj hb
    have hlt : j < v.f1.length := by omega
    have ht := take_any (badB i) v.f1 j hlt
    have hany := fun h => any_of_take (g := badB i) hlt h
    generalize hxx : rd v.f1 (j : Int) = x at ht hany
    refine Ev.step (f := fun k => if x < 0 then (some 2) else (if x ≥ (i : Int) then (some 2) else (tidemillref05_vertex.l0 k (i : Int) ((j + 1 : Nat) : Int) l p v.f0 v.f1 v.f2.f0 v.f2.f1 v.f2.f2 v.f3))) (fun k => ?_) ?_
    · simp only [tidemillref05_vertex.l0]
      rw [if_pos (by omega), if_pos (by omega), hxx, wrapN (by omega)]
    · by_cases h1 : x < 0
      · simp only [if_pos h1]
        rw [if_pos (hany (by unfold badB; rw [decide_eq_true h1]; rfl))]
        exact Ev.now _
      · simp only [if_neg h1]
        by_cases h2 : x ≥ (i : Int)
        · simp only [if_pos h2]
          rw [if_pos (hany (by unfold badB; rw [decide_eq_true (show (i : Int) ≤ x from h2), Bool.or_true]))]
          exact Ev.now _
        · simp only [if_neg h2]
          exact ih (j + 1) (by omega) (by rw [ht, hb, Bool.false_or]; unfold badB; rw [decide_eq_false h1, decide_eq_false (show ¬ (i : Int) ≤ x from h2)]; rfl)
theorem refVertex_ev (l : List Vx) (p : Int) (i : Nat) (hi : i < l.length) (hl : l.length ≤ 24) (ks : List (Int × Int)) (hk : Seen l i ks) (hm : (vAt l (i : Int)).f1.length ≤ 9223372036854775807) : Ev (fun k => tidemillref05_vertex.f k l p (i : Int)) (vertOf l i (vAt l (i : Int)) ks) := by
  have htk := taken_ev l p i hi hl ks hk
  obtain ⟨v, hv⟩ : ∃ v, vAt l (i : Int) = v := ⟨_, rfl⟩
  rw [hv] at htk hm ⊢
  unfold tidemillref05_vertex.f
  simp only [if_pos (show (0 : Int) ≤ (i : Int) by omega), if_pos (show (i : Int) < (l.length : Int) by omega), show rd_T37 l (i : Int) = v from hv]
  by_cases h1 : v.f0 < 1
  · simp only [if_pos h1]
    rw [vert1 (.inl h1)]
    exact Ev.step (f := fun _ => some 1) (fun k => by simp only [tidemillref05_vertex.j0, if_true]) (Ev.now _)
  simp only [if_neg h1]
  by_cases h2 : v.f0 > 10
  · rw [vert1 (.inr h2), decide_eq_true h2]
    exact Ev.step (f := fun _ => some 1) (fun k => by simp only [tidemillref05_vertex.j0, if_true]) (Ev.now _)
  rw [decide_eq_false h2]
  have hkd : ¬ (v.f0 < 1 ∨ 10 < v.f0) := by omega
  refine Ev.step (fun k => by simp only [tidemillref05_vertex.j0, Bool.false_eq_true, if_false]; rfl) ?_
  have hh := refHas_ev v (by omega)
  have key := bads_l0 l p i v hm (if hasB (fmOf v.f0) v = false then 5 else if ((fmOf v.f0).own && decide ((v.f0, v.f3) ∈ ks)) = true then 12 else if v.f1.any (sinkB l) = true then 5 else if v.f0 = 9 ∧ (vAt l (rd v.f1 1)).f0 ≠ 6 then 5 else 0) (fun hb => ?_) v.f1.length 0 (by omega) rfl
  · have he : vertOf l i v ks = (if v.f1.any (badB i) = true then 2 else (if hasB (fmOf v.f0) v = false then 5 else if ((fmOf v.f0).own && decide ((v.f0, v.f3) ∈ ks)) = true then 12 else if v.f1.any (sinkB l) = true then 5 else if v.f0 = 9 ∧ (vAt l (rd v.f1 1)).f0 ≠ 6 then 5 else 0)) := by
      unfold vertOf
      rw [if_neg hkd]
      simp only [Bool.and_eq_true, decide_eq_true_eq]
    rw [he]
    exact key
  · refine Ev.bind hh ?_
    cases hhb : hasB (fmOf v.f0) v with
    | false =>
      simp only [Bool.false_eq_true, if_false, if_true]
      exact Ev.now _
    | true =>
      simp only [if_true, Bool.true_eq_false, if_false]
      refine Ev.bind htk ?_
      cases (fmOf v.f0).own && decide ((v.f0, v.f3) ∈ ks) with
      | true =>
        simp only [if_true]
        exact Ev.now _
      | false =>
        simp only [Bool.false_eq_true, if_false]
        have hx : ∀ x ∈ v.f1, 0 ≤ x ∧ x < (l.length : Int) := fun x hx => by
          have h3 := List.any_eq_false.1 hb x hx
          unfold badB at h3
          simp at h3
          omega
        have := sinks_l1 l p v hm hx (fun h9 => by
          rw [h9] at hhb
          unfold hasB at hhb
          simp [fmOf] at hhb
          omega) v.f1.length 0 (by omega)
        rw [List.drop_zero] at this
        exact this
/-! ### the whole -/
theorem check_l0 (l : List Vx) (p : Int) (hl : l.length ≤ 24) (hm : ∀ v ∈ l, v.f1.length ≤ 9223372036854775807) : ∀ (d i : Nat) (ks : List (Int × Int)), i + d = l.length → Seen l i ks → Ev (fun k => tidemillref05_Check.l0 k (i : Int) l p) (checkGo l i (l.drop i) ks) := by
  intro d
  induction d with
  | zero =>
    intro i ks hi hk
    rw [List.drop_of_length_le (by omega), checkGo]
    refine Ev.step (f := fun _ => some (-1, 0)) (fun k => ?_) (Ev.now _)
    simp only [tidemillref05_Check.l0]
    rw [if_neg (by omega)]
  | succ d ih =>
    intro i ks hi hk
    have hlt : i < l.length := by omega
    rw [drop_vAt hlt]
    refine Ev.step (f := fun k => (tidemillref05_vertex.f k l p (i : Int)).bind fun t198 => (if t198 = 0 then (tidemillref05_Check.l0 k ((i + 1 : Nat) : Int) l p) else (some ((i : Int), t198)))) (fun k => ?_) ?_
    · simp only [tidemillref05_Check.l0]
      rw [if_pos (by omega), wrapN (by omega)]
    · refine Ev.bind (refVertex_ev l p i hlt hl ks hk (hm _ (vAt_mem hlt))) ?_
      by_cases h : vertOf l i (vAt l (i : Int)) ks = 0
      · simp only [if_pos h]
        rw [checkGo_ok h]
        exact ih (i + 1) _ (by omega) (hk.next hlt)
      · simp only [if_neg h]
        rw [checkGo_bad rfl h]
        exact Ev.now _
theorem refCheck_ev (l : List Vx) (p : Int) (hm : ∀ v ∈ l, v.f1.length ≤ 9223372036854775807) : Ev (fun k => tidemillref05_Check.f k l p) (checkOf l p) := by
  have hT : Ev (fun k => tidemillref05_Check.j0 k true l p) (-1, 2) := Ev.step (f := fun _ => some (-1, 2)) (fun k => by simp only [tidemillref05_Check.j0, if_true]) (Ev.now _)
  unfold tidemillref05_Check.f checkOf
  by_cases h1 : p < 1
  · simp only [if_pos h1]
    rw [if_pos (.inl h1)]
    exact hT
  simp only [if_neg h1]
  by_cases h2 : p > 8
  · simp only [if_pos h2]
    rw [if_pos (.inr (.inl h2))]
    exact hT
  simp only [if_neg h2]
  by_cases h3 : (l.length : Int) < 1
  · simp only [if_pos h3]
    rw [if_pos (.inr (.inr (.inl (by omega))))]
    exact hT
  simp only [if_neg h3]
  by_cases h4 : (l.length : Int) > 24
  · rw [decide_eq_true h4, if_pos (.inr (.inr (.inr (by omega))))]
    exact hT
  rw [decide_eq_false h4, if_neg (by omega)]
  refine Ev.step (fun k => by simp only [tidemillref05_Check.j0, Bool.false_eq_true, if_false]; rfl) ?_
  have := check_l0 l p (by omega) hm l.length 0 [] (by omega) (Seen.start l)
  rw [List.drop_zero] at this
  exact this
end Go.Proofs.Ytlandgbhbfdekaa.Ex
namespace Go.Proofs.Ytlandgbhbfdekaa.Ex
open Go Go.RowKit Go.Proofs.YtlandgbhbfdekaaW.PrintWords Go.Proofs.YtlandgbhbfdekaaW.PrintLast Go.Proofs.YtlandgbhbfdekaaW.PrintMore
set_option linter.unusedVariables false
set_option linter.unusedSimpArgs false
theorem ctMay_ev (l : List Vx) (p : Int) (hm : ∀ v ∈ l, v.f1.length ≤ 9223372036854775807) : Ev (fun k => tidemillref16_May.f k l p) ((checkOf l p).2 == 0) := by
  unfold tidemillref16_May.f
  exact Ev.bind (refCheck_ev l p hm) (Ev.now _)
/-- A log's number. -/
def logOf (l : List Vx) (p a b c : Int) : Int := if (checkOf l p).2 = 0 ∧ 0 ≤ a ∧ a < 3 ∧ 0 ≤ b ∧ b < (l.length : Int) ∧ 0 ≤ c ∧ c < p then (a * (l.length : Int) + b) * p + c else -1
theorem logOf_in {l : List Vx} {p a b c : Int} (h0 : (checkOf l p).2 = 0) (g : 0 ≤ a ∧ a < 3 ∧ 0 ≤ b ∧ b < (l.length : Int) ∧ 0 ≤ c ∧ c < p) : logOf l p a b c = (a * (l.length : Int) + b) * p + c := by unfold logOf; rw [if_pos ⟨h0, g⟩]
theorem logOf_out {l : List Vx} {p a b c : Int} (g : ¬ ((checkOf l p).2 = 0 ∧ 0 ≤ a ∧ a < 3 ∧ 0 ≤ b ∧ b < (l.length : Int) ∧ 0 ≤ c ∧ c < p)) : logOf l p a b c = -1 := by unfold logOf; rw [if_neg g]
theorem eight {p : Int} (h1 : 1 ≤ p) (h2 : p ≤ 8) : p = 1 ∨ p = 2 ∨ p = 3 ∨ p = 4 ∨ p = 5 ∨ p = 6 ∨ p = 7 ∨ p = 8 := by omega
theorem log_fits {n p a b c : Int} (h1 : 1 ≤ p) (h2 : p ≤ 8) (hn : 0 ≤ n) (hn2 : n ≤ 24) (a0 : 0 ≤ a) (a1 : a < 3) (b0 : 0 ≤ b) (b1 : b < n) (c0 : 0 ≤ c) (c1 : c < p) :
    wrap64 (wrap64 (wrap64 (wrap64 (a * n) + b) * p) + c) = (a * n + b) * p + c ∧ wrap64 (wrap64 (wrap64 (wrap64 (a * n) * p) + wrap64 (b * p)) + c) = (a * n + b) * p + c := by
  obtain rfl | rfl | rfl : a = 0 ∨ a = 1 ∨ a = 2 := by omega
  all_goals rcases eight h1 h2 with rfl | rfl | rfl | rfl | rfl | rfl | rfl | rfl
  all_goals (unfold wrap64; constructor <;> omega)
theorem cutLog_f {l : List Vx} (h : ∀ v ∈ l, I64 v.f3) (p a b c : Int) : cut_Log.f l p a b c = some (logOf l p a b c) := by
  unfold cut_Log.f cut_may.f
  rw [ctCheck h, Option.bind_some, Option.bind_some]
  by_cases h0 : (checkOf l p).2 = 0
  · have hp := ctPos h0
    rw [if_pos (by simpa using h0)]
    by_cases g : 0 ≤ a ∧ a < 3 ∧ 0 ≤ b ∧ b < (l.length : Int) ∧ 0 ≤ c ∧ c < p
    · rw [logOf_in h0 g, if_neg (by omega), if_neg (by omega), if_neg (by omega), if_neg (by omega), if_neg (by omega), if_neg (by omega), (log_fits hp.1 hp.2.1 (by omega) (by omega) g.1 g.2.1 g.2.2.1 g.2.2.2.1 g.2.2.2.2.1 g.2.2.2.2.2).1]
    · rw [logOf_out (fun x => g x.2)]
      by_cases g1 : a < 0
      · rw [if_pos g1]
      by_cases g2 : a ≥ 3
      · rw [if_neg g1, if_pos g2]
      by_cases g3 : b < 0
      · rw [if_neg g1, if_neg g2, if_pos g3]
      by_cases g4 : b ≥ (l.length : Int)
      · rw [if_neg g1, if_neg g2, if_neg g3, if_pos g4]
      by_cases g5 : c < 0
      · rw [if_neg g1, if_neg g2, if_neg g3, if_neg g4, if_pos g5]
      rw [if_neg g1, if_neg g2, if_neg g3, if_neg g4, if_neg g5, if_pos (by omega)]
  · rw [logOf_out (fun x => h0 x.1), if_neg (by simpa using h0)]
theorem refLog_ev (l : List Vx) (p a b c : Int) (hm : ∀ v ∈ l, v.f1.length ≤ 9223372036854775807) : Ev (fun k => tidemillref16_Log.f k l p a b c) (logOf l p a b c) := by
  unfold tidemillref16_Log.f
  refine Ev.bind (ctMay_ev l p hm) ?_
  by_cases h0 : (checkOf l p).2 = 0
  · have hp := ctPos h0
    simp only [show ((checkOf l p).2 == 0) = true by simpa using h0, if_true]
    by_cases g : 0 ≤ a ∧ a < 3 ∧ 0 ≤ b ∧ b < (l.length : Int) ∧ 0 ≤ c ∧ c < p
    · rw [logOf_in h0 g, if_neg (by omega), if_neg (by omega), if_neg (by omega), if_neg (by omega), if_neg (by omega), if_neg (by omega), (log_fits hp.1 hp.2.1 (by omega) (by omega) g.1 g.2.1 g.2.2.1 g.2.2.2.1 g.2.2.2.2.1 g.2.2.2.2.2).2]
      exact Ev.now _
    · rw [logOf_out (fun x => g x.2)]
      by_cases g1 : a < 0
      · rw [if_pos g1]; exact Ev.now _
      by_cases g2 : a > 2
      · rw [if_neg g1, if_pos g2]; exact Ev.now _
      by_cases g3 : b < 0
      · rw [if_neg g1, if_neg g2, if_pos g3]; exact Ev.now _
      by_cases g4 : b ≥ (l.length : Int)
      · rw [if_neg g1, if_neg g2, if_neg g3, if_pos g4]; exact Ev.now _
      by_cases g5 : c < 0
      · rw [if_neg g1, if_neg g2, if_neg g3, if_neg g4, if_pos g5]; exact Ev.now _
      rw [if_neg g1, if_neg g2, if_neg g3, if_neg g4, if_neg g5, if_pos (by omega)]
      exact Ev.now _
  · simp only [show ((checkOf l p).2 == 0) = false by simpa using h0, Bool.false_eq_true, if_false]
    rw [logOf_out (fun x => h0 x.1)]
    exact Ev.now _
theorem refPart_ev (l : List Vx) (p a : Int) (hm : ∀ v ∈ l, v.f1.length ≤ 9223372036854775807) : Ev (fun k => tidemillref16_Part.f k l p a) (if (checkOf l p).2 = 0 then a % p else -1) := by
  unfold tidemillref16_Part.f
  refine Ev.bind (ctMay_ev l p hm) ?_
  by_cases h0 : (checkOf l p).2 = 0
  · have hp := ctPos h0
    simp only [show ((checkOf l p).2 == 0) = true by simpa using h0, if_true]
    rw [if_pos h0, if_neg (by omega)]
    have hlt := Int.tmod_lt_of_pos a (show 0 < p by omega)
    have hgt := Int.lt_tmod_of_pos a (show 0 < p by omega)
    have g0 := Int.emod_nonneg a (show p ≠ 0 by omega)
    have g1 := Int.emod_lt_of_pos a (show 0 < p by omega)
    have e := Int.tmod_def a p
    have e2 : Int.tmod a p % p = a % p := by rw [e, Int.sub_mul_emod_self_left]
    by_cases hn : Int.tmod a p < 0
    · rw [if_pos hn]
      have e3 : (Int.tmod a p + p) % p = Int.tmod a p + p := Int.emod_eq_of_lt (by omega) (by omega)
      rw [Int.add_emod_right, e2] at e3
      have hw : wrap64 (Int.tmod a p + p) = Int.tmod a p + p := by unfold wrap64; omega
      rw [hw, ← e3]
      exact Ev.now _
    · rw [if_neg hn]
      have e3 : Int.tmod a p % p = Int.tmod a p := Int.emod_eq_of_lt (by omega) (by omega)
      rw [e2] at e3
      rw [← e3]
      exact Ev.now _
  · simp only [show ((checkOf l p).2 == 0) = false by simpa using h0, Bool.false_eq_true, if_false]
    rw [if_neg h0]
    exact Ev.now _
theorem logs_ev (l : List Vx) (p a1 a2 a3 a4 : Int) (hv : ∀ v ∈ l, vxOk v) (hl : l.length ≤ 1759218604441) : Ev (fun k => tidemilllaw16_CutLogs.f k l p a1 a2 a3 a4) true := by
  have hi : ∀ v ∈ l, I64 v.f3 := fun v h => (hv v h).2.2.2
  have hmx : maxLen ≤ 9223372036854775807 := by decide
  have hm : ∀ v ∈ l, v.f1.length ≤ 9223372036854775807 := fun v h => Nat.le_trans (hv v h).2.1.1 hmx
  unfold tidemilllaw16_CutLogs.f
  refine Ev.bind ctShown ?_
  obtain ⟨b, hb⟩ := ctSmall l p (fun v h => (hv v h).2.2.1) hl
  refine Ev.bind hb ?_
  cases b with
  | false =>
    simp only [Bool.false_eq_true, if_false]
    exact Ev.now _
  | true =>
    simp only [if_true, cutLog_f hi, ctPart hi, Option.bind_some]
    refine Ev.bind (refLog_ev l p a1 a2 a3 hm) ?_
    simp only [if_true]
    refine Ev.bind (refPart_ev l p a4 hm) ?_
    rw [beq_self_eq_true]
    exact Ev.now _
theorem logs_ok (A0 : Option Addr) (c0 : Nat) (l : List Vx) (p a1 a2 a3 a4 : Int) (w : World) (hC : Kd.C k37 w A0 l.length l) (hc : l.length ≤ c0) (hv : ∀ v ∈ l, vxOk v) (hl : l.length ≤ 1759218604441) :
    Calls Try.prog 6 #[.agg #[.slice A0 l.length c0, .int .i64 p], .int .i64 a1, .int .i64 a2, .int .i64 a3, .int .i64 a4] w fun e w' => e = .returned (.bool true) ∧ Below w.heap.size w w' := by
  obtain ⟨k, hk⟩ := Ev.rounds (logs_ev l p a1 a2 a3 a4 hv hl)
  exact tidemilllaw16_CutLogs.calls k A0 c0 l p a1 a2 a3 a4 true w hC hc hk
theorem open_T {w : World} {t : List Vx × Int} {cs : List Value} (h : (Kd.pair (Kd.slice 37 k37) (Kd.int .i64)).K w t cs) : ∃ A c, cs = [.slice A t.1.length c, .int .i64 t.2] ∧ t.1.length ≤ c ∧ Kd.C k37 w A t.1.length t.1 := by
  obtain ⟨_, _, rfl, ⟨A, c, rfl, l1, g1⟩, rfl⟩ := h
  exact ⟨A, c, rfl, l1, g1⟩
end Go.Proofs.Ytlandgbhbfdekaa.Ex
