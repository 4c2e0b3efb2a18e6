/- (c16) The statement CutNumbers. -/
import Derived.Test.YtlandgbhbfdekaaExMay
import Derived.Test.YtlandgbhbfdekaaOpn
import Derived.Test.YtlandgbhbfdekaaTpCheck
import Derived.Test.YtlandgbhbfdekaaCtInp
import Derived.Test.YtlandgbhbfdekaaEx5
import Derived.Test.YtlandgbhbfdekaaEx7
import Derived.Test.YtlandgbhbfdekaaEx14
import Derived.Laws.IdiomArrays
import Derived.Lib.Bytes
namespace Go.Proofs.Ytlandgbhbfdekaa.Ex
open Go Go.RowKit Go.Proofs.YtlandgbhbfdekaaW.PrintWords Go.Proofs.Ytlandgbhbfdekaa.Opn
set_option linter.unusedVariables false
set_option linter.unusedSimpArgs false
theorem wf_I64 {n : Int} (h : (Lit.int .i64 n).wf = true) : I64 n := by
  simp [Lit.wf, IntKind.min, IntKind.max, IntKind.bits, IntKind.signed] at h
  unfold I64
  omega
set_option maxRecDepth 100000 in
theorem opens_E {H : Type} {enc : TypeId × Value → H} : Opens enc Try.prog k34 34 (fun e _ => wfE e) := by
  have key : ∀ N fuel : Nat, fuel ≤ N → ∀ (w : World) (base : Nat) (sp : Nat → Bool) (held : Bool) (cs : List Value) (x : DataW H × List MemPlace), DataW.trod enc Try.prog w base sp held fuel 34 cs = some x → ∃ e, k34.K w e cs ∧ wfE e := by
    intro N
    induction N with
    | zero =>
      intro fuel hN w base sp held cs x h
      obtain ⟨xs, n, hf, _⟩ := DataW.trod_struct Try.underlying34 h
      omega
    | succ N ih =>
      intro fuel hN w base sp held cs x h
      obtain ⟨xs, n, hf, _, hc, hlen, hfs⟩ := DataW.trod_struct Try.underlying34 h
      have hc3 : cs.length = 3 := by rw [hc]; kernel_rfl
      have hx3 : xs.length = 3 := by rw [hlen]; rfl
      obtain ⟨y0, y1, y2, rfl⟩ : ∃ a b c, xs = [a, b, c] := by
        match xs, hx3 with
        | [a, b, c], _ => exact ⟨a, b, c, rfl⟩
      obtain ⟨v0, v1, v2, rfl⟩ : ∃ a b c, cs = [a, b, c] := by
        match cs, hc3 with
        | [a, b, c], _ => exact ⟨a, b, c, rfl⟩
      have e0 : Try.prog.cellsOf 3 = 1 := by kernel_rfl
      have e1 : Try.prog.cellsOf 2 = 1 := by kernel_rfl
      have e2 : Try.prog.cellsOf 32 = 1 := by kernel_rfl
      have e3 : Try.prog.cellsOf 34 = 3 := by kernel_rfl
      have f0 : DataW.trod enc Try.prog w base sp held n 3 (([v0, v1, v2].drop 0).take (Try.prog.cellsOf 3)) = some y0 := hfs 0 _ rfl
      have f1 : DataW.trod enc Try.prog w base sp held n 2 (([v0, v1, v2].drop 1).take (Try.prog.cellsOf 2)) = some y1 := hfs 1 _ rfl
      have f2 : DataW.trod enc Try.prog w base sp held n 32 (([v0, v1, v2].drop 2).take (Try.prog.cellsOf 32)) = some y2 := hfs 2 _ rfl
      rw [e0] at f0
      rw [e1] at f1
      rw [e2] at f2
      obtain ⟨a0, h0, _, w0⟩ := DataW.trod_int Try.underlying3 f0
      obtain ⟨a1, h1, _, w1⟩ := DataW.trod_int Try.underlying2 f1
      obtain rfl : v0 = .int .i64 a0 := by simpa using h0
      obtain rfl : v1 = .int .i64 a1 := by simpa using h1
      rcases DataW.trod_slice Try.underlying32 f2 with ⟨hc2, _⟩ | ⟨A, len, cap, elems, rest, m, hm, hc2, _, _, hl, hmx, hlen2, hel, _, _⟩
      · obtain rfl : v2 = .slice none 0 0 := by simpa using hc2
        refine ⟨⟨a0, a1, []⟩, k34_mk w ⟨a0, a1, []⟩ (Nat.le_refl _) (Kd.C_nil _ _), .mk _ _ _ (wf_I64 w0) (wf_I64 w1) (by simp) (fun x hx => by cases hx)⟩
      · obtain rfl : v2 = .slice (some A) len cap := by simpa using hc2
        have hmx2 : maxLen ≤ 9223372036854775807 := by decide
        obtain ⟨l, hll, hls⟩ := choose_list (Q := fun i e => ∃ c, w.cells? base (A.add (i * 3)) 3 = some c ∧ k34.K w e c ∧ wfE e) len (fun i hi => by
          have h3 := hel i hi
          rw [List.getElem?_eq_getElem (by omega), Option.bind_eq_some_iff] at h3
          obtain ⟨c, hc, hy⟩ := h3
          obtain ⟨e, hK, hw⟩ := ih _ (by omega) _ _ _ _ _ _ hy
          rw [e3] at hc
          exact ⟨e, c, hc, hK, hw⟩)
        have hC : Kd.C k34 w (some A) l.length l := by
          refine ⟨rfl, by omega, fun _ => ⟨A, rfl, fun j p hj => ?_⟩⟩
          obtain ⟨c, h3, h4, _⟩ := hls j p hj
          have h5 := World.cells?_some h3
          refine ⟨c, h5.2.1, h4, fun i u hu => ?_⟩
          have hi : i < 3 := by have := (List.getElem?_eq_some_iff.1 hu).1; have := h5.2.1; omega
          rw [show (Kd.sz k34) = 3 from rfl, ← Opn.add_add, h5.2.2 i hi, hu]
        subst hll
        refine ⟨⟨a0, a1, l⟩, k34_mk w ⟨a0, a1, l⟩ hl hC, .mk _ _ _ (wf_I64 w0) (wf_I64 w1) (show l.length ≤ 9223372036854775807 by omega) (fun x hx => ?_)⟩
        obtain ⟨i, hi, rfl⟩ := List.getElem_of_mem hx
        obtain ⟨_, _, _, h6⟩ := hls i _ (List.getElem?_eq_getElem hi)
        exact h6
  intro w base sp held fuel cs x h
  exact key fuel fuel (Nat.le_refl _) w base sp held cs x h
end Go.Proofs.Ytlandgbhbfdekaa.Ex
namespace Go.Proofs.Ytlandgbhbfdekaa.Ex
open Go Go.RowKit Go.Proofs.YtlandgbhbfdekaaW.PrintWords Go.Proofs.Ytlandgbhbfdekaa.Opn
set_option linter.unusedVariables false
set_option linter.unusedSimpArgs false
theorem Opens.mono {H : Type} {enc : TypeId × Value → H} {P : Program} {α : Type} {d : Kd α} {t : TypeId} {G G' : α → DataW H → Prop} (h : Opens enc P d t G) (hg : ∀ a x, G a x → G' a x) : Opens enc P d t G' := by
  intro w base sp held fuel cs x hx
  obtain ⟨a, h1, h2⟩ := h w base sp held fuel cs x hx
  exact ⟨a, h1, hg _ _ h2⟩
def vxOk (v : S37) : Prop := I64 v.f0 ∧ (v.f1.length ≤ maxLen ∧ ∀ x ∈ v.f1, I64 x) ∧ wfE v.f2 ∧ I64 v.f3
theorem slice_ints {H : Type} {l : List Int} {x : DataW H} (h : GSlice (GInt .i64) l x) : l.length ≤ maxLen ∧ ∀ n ∈ l, I64 n := by
  obtain ⟨h0, h⟩ := h
  refine ⟨h0, fun n hn => ?_⟩
  rcases h with ⟨rfl, _⟩ | ⟨ds, rest, _, hl, h⟩
  · cases hn
  · obtain ⟨i, hi, rfl⟩ := List.getElem_of_mem hn
    exact wf_I64 (h i _ _ (List.getElem?_eq_getElem hi) (List.getElem?_eq_getElem (by omega))).2
theorem opens_V {H : Type} {enc : TypeId × Value → H} : Opens enc Try.prog k37 37 (fun v _ => vxOk v) := by
  have h := opens_iso (enc := enc) (P := Try.prog) (fun x : S37 => (x.f0, x.f1, x.f2, x.f3)) (fun a => (⟨a.1, a.2.1, a.2.2.1, a.2.2.2⟩ : S37)) (fun _ => rfl)
    (opens_struct (enc := enc) Try.underlying37 rfl (by kernel_rfl) (opensF_cons (off' := 1) rfl (by kernel_rfl) rfl (opens_int Try.underlying3)
      (opensF_cons (off' := 2) rfl (by kernel_rfl) rfl (opens_slice (e' := 3) Try.underlying35 (opens_int Try.underlying3) (by kernel_rfl))
      (opensF_cons (off' := 5) rfl (by kernel_rfl) rfl opens_E (opensF_one rfl (by kernel_rfl) (opens_int Try.underlying2))))))
  refine Opens.mono h (fun v x hx => ?_)
  obtain ⟨l, _, y, t, _, ⟨_, h1⟩, y2, t2, _, h2, y3, t3, _, h3, y4, _, ⟨_, h4⟩⟩ := hx
  exact ⟨wf_I64 h1, slice_ints h2, h3, wf_I64 h4⟩
end Go.Proofs.Ytlandgbhbfdekaa.Ex
namespace Go.Proofs.Ytlandgbhbfdekaa.Ex
open Go Go.RowKit Go.Proofs.YtlandgbhbfdekaaW.PrintWords Go.Proofs.Ytlandgbhbfdekaa.Opn
set_option linter.unusedVariables false
set_option linter.unusedSimpArgs false
/-- How many vertices the datum has. -/
def topoLen {H : Type} (l : List Vx) (x : DataW H) : Prop := ∃ y z, x = .agg [y, z] ∧ ((y = .nil ∧ l = []) ∨ ∃ ds rest, y = .slice ds rest ∧ ds.length = l.length)
theorem opens_LV {H : Type} {enc : TypeId × Value → H} : Opens enc Try.prog (Kd.slice 37 k37) 22 (GSlice (fun (v : Vx) _ => vxOk v)) := opens_slice (e' := 37) Try.underlying22 opens_V (by kernel_rfl)
theorem vx_all {H : Type} {l : List Vx} {x : DataW H} (h : GSlice (fun (v : Vx) _ => vxOk v) l x) : ∀ v ∈ l, vxOk v := by
  obtain ⟨h0, h⟩ := h
  intro n hn
  rcases h with ⟨rfl, _⟩ | ⟨ds, rest, _, hl, h⟩
  · cases hn
  · obtain ⟨i, hi, rfl⟩ := List.getElem_of_mem hn
    exact h i _ _ (List.getElem?_eq_getElem hi) (List.getElem?_eq_getElem (by omega))
theorem opens_T {H : Type} {enc : TypeId × Value → H} : Opens enc Try.prog (Kd.pair (Kd.slice 37 k37) (Kd.int .i64)) 24 (fun t x => (∀ v ∈ t.1, vxOk v) ∧ topoLen t.1 x) := by
  have h := opens_struct (enc := enc) Try.underlying24 rfl (by kernel_rfl) (opensF_cons (off' := 1) rfl (by kernel_rfl) rfl opens_LV (opensF_one rfl (by kernel_rfl) (opens_int Try.underlying3)))
  refine Opens.mono h (fun t x hx => ?_)
  obtain ⟨l, hl, y, r, hr, h1, z, hz, _⟩ := hx
  refine ⟨vx_all h1, y, z, by rw [hl, hr, hz], ?_⟩
  rcases h1.2 with ⟨h2, h3⟩ | ⟨ds, rest, h2, h3, _⟩
  · exact .inl ⟨h3, h2⟩
  · exact .inr ⟨ds, rest, h2, h3⟩
theorem topo_len {H : Type} {ts : List TypeId} {ds : List (DataW H)} {d : DataW H} {l : List Vx} (hsz : (DataW.weightsEach Try.prog (24 :: ts) (d :: ds)).all (· ≤ reachBytes) = true) (hg : topoLen l d) : l.length ≤ 1759218604441 := by
  obtain ⟨y, z, rfl, h⟩ := hg
  rcases h with ⟨_, rfl⟩ | ⟨es, rest, rfl, h⟩
  · simp
  · have hb : Try.prog.bytesOf 37 = 80 := by kernel_rfl
    have hm : (es.length + rest.length) * 80 ∈ DataW.weightsEach Try.prog (24 :: ts) (.agg [.slice es rest, z] :: ds) := by
      rw [DataW.weightsEach, DataW.weights, Try.underlying24]
      simp only [List.map_cons, List.map_nil]
      rw [DataW.weightsEach, DataW.weights, Try.underlying22]
      simp [hb]
    have := List.all_eq_true.1 hsz _ hm
    simp only [decide_eq_true_eq] at this
    have hr : reachBytes = 140737488351232 := rfl
    omega
end Go.Proofs.Ytlandgbhbfdekaa.Ex
namespace Go.Proofs.Ytlandgbhbfdekaa.Ex
open Go Go.RowKit Go.Proofs.YtlandgbhbfdekaaW.PrintWords Go.Proofs.YtlandgbhbfdekaaW.PrintLast Go.Proofs.YtlandgbhbfdekaaW.PrintMore
set_option linter.unusedVariables false
set_option linter.unusedSimpArgs false
theorem ctCount_l0 (l : List E) (x0 x1 : Int) (hl : l.length ≤ 9223372036854775807) (g : E → Int) (hf : ∀ x ∈ l, Ev (fun k => tidemillref04_Count.f k x.f0 x.f1 x.f2) (g x)) :
    ∀ (r i : Nat) (n : Int), i + r = l.length → Ev (fun k => tidemillref04_Count.l0 k n (i : Int) x0 x1 l) ((l.drop i).foldl (fun n x => wrap64 (n + g x)) n) := by
  intro r
  induction r with
  | zero =>
    intro i n hi
    rw [List.drop_of_length_le (by omega)]
    refine Ev.step (f := fun _ => some n) (fun k => ?_) (Ev.now _)
    simp only [tidemillref04_Count.l0]
    rw [if_neg (by omega)]
  | succ r ih =>
    intro i n hi
    have hlt : i < l.length := by omega
    rw [drop_rd hlt]
    refine Ev.step (f := fun k => (tidemillref04_Count.f k (rd_T34 l (i : Int)).f0 (rd_T34 l (i : Int)).f1 (rd_T34 l (i : Int)).f2).bind fun t => tidemillref04_Count.l0 k (wrap64 (n + t)) ((i + 1 : Nat) : Int) x0 x1 l) (fun k => ?_) ?_
    · simp only [tidemillref04_Count.l0]
      rw [if_pos (by omega), if_pos (by omega), wsucc (by omega)]
    · exact Ev.bind (hf _ (rd_mem hlt)) (ih (i + 1) _ (by omega))
theorem ctCount_any : ∀ e, wfE e → ∃ c, Ev (fun k => tidemillref04_Count.f k e.f0 e.f1 e.f2) c := by
  refine E_ind (fun e ih hw => ?_)
  have h := hw.out
  have hc : ∀ x, ∃ c : Int, x ∈ e.f2 → Ev (fun k => tidemillref04_Count.f k x.f0 x.f1 x.f2) c := fun x => by
    by_cases hx : x ∈ e.f2
    · obtain ⟨c, hc⟩ := ih x hx (h.2.2.2 x hx)
      exact ⟨c, fun _ => hc⟩
    · exact ⟨0, fun hx' => absurd hx' hx⟩
  have h2 := ctCount_l0 e.f2 e.f0 e.f1 h.2.2.1 (fun x => Classical.choose (hc x)) (fun x hx => Classical.choose_spec (hc x) hx) e.f2.length 0 1 (by omega)
  rw [List.drop_zero] at h2
  exact ⟨_, Ev.step (f := fun k => tidemillref04_Count.l0 k 1 ((0 : Nat) : Int) e.f0 e.f1 e.f2) (fun k => by simp only [tidemillref04_Count.f]; rfl) h2⟩
theorem ctWrap {i : Nat} (h : i < 9223372036854775807) : wrap64 ((i : Int) + 1) = ((i + 1 : Nat) : Int) := by unfold wrap64; omega
theorem ctVmem {l : List Vx} {i : Nat} (h : i < l.length) : vAt l (i : Int) ∈ l := by rw [vAt_get h]; exact List.getElem_mem _
theorem ctSmall_l0 (l : List Vx) (p : Int) (hw : ∀ v ∈ l, wfE v.f2) (hl : l.length ≤ 1759218604441) : ∀ (d i : Nat) (n : Int), i + d = l.length → ∃ b, Ev (fun k => tidemilllaw16_small.l0 k n (i : Int) l p) b := by
  intro d
  induction d with
  | zero =>
    intro i n hi
    refine ⟨decide (n ≤ 5000), Ev.step (f := fun _ => some (decide (n ≤ 5000))) (fun k => ?_) (Ev.now _)⟩
    simp only [tidemilllaw16_small.l0]
    rw [if_neg (by omega)]
  | succ d ih =>
    intro i n hi
    have hlt : i < l.length := by omega
    by_cases hn : n ≤ 5000
    · obtain ⟨c, hc⟩ := ctCount_any (vAt l (i : Int)).f2 (hw _ (ctVmem hlt))
      obtain ⟨b, hb⟩ := ih (i + 1) (wrap64 (n + c)) (by omega)
      refine ⟨b, Ev.step (f := fun k => (tidemillref04_Count.f k (vAt l (i : Int)).f2.f0 (vAt l (i : Int)).f2.f1 (vAt l (i : Int)).f2.f2).bind fun t167 => tidemilllaw16_small.l0 k (wrap64 (n + t167)) ((i + 1 : Nat) : Int) l p) (fun k => ?_) (Ev.bind hc hb)⟩
      simp only [tidemilllaw16_small.l0]
      rw [if_pos (by omega), if_pos hn, if_pos (by omega), show rd_T37 l (i : Int) = vAt l (i : Int) from rfl, ctWrap (by omega)]
    · refine ⟨decide (n ≤ 5000), Ev.step (f := fun _ => some (decide (n ≤ 5000))) (fun k => ?_) (Ev.now _)⟩
      simp only [tidemilllaw16_small.l0]
      rw [if_pos (by omega), if_neg hn]
theorem ctSmall (l : List Vx) (p : Int) (hw : ∀ v ∈ l, wfE v.f2) (hl : l.length ≤ 1759218604441) : ∃ b, Ev (fun k => tidemilllaw16_small.f k l p) b := ctSmall_l0 l p hw hl l.length 0 0 (by omega)
theorem ctShown40 : tidemilllaw16_shown.f 40 = some true := by decide +kernel
theorem ctShown : Ev (fun k => tidemilllaw16_shown.f k) true := Ev.of (fun k => tidemilllaw16_shown.mono k) ctShown40
theorem ctOkV {l : List Vx} (h : ∀ v ∈ l, I64 v.f3) : okV l = true := by
  unfold okV
  rw [List.all_eq_true]
  intro v hv
  have := h v hv
  unfold I64 at this
  simpa using this
theorem ctCheck {l : List Vx} (h : ∀ v ∈ l, I64 v.f3) (p : Int) : topo_Check.f l p = some (checkOf l p) := by unfold topo_Check.f; rw [if_pos (ctOkV h)]
theorem ctParts {l : List Vx} (h : ∀ v ∈ l, I64 v.f3) (p : Int) : cut_Parts.f l p = some (if (checkOf l p).2 = 0 then partsOf l else [], (checkOf l p).2) := parts_f l p (ctOkV h) rfl
theorem ctPos {l : List Vx} {p : Int} (h : (checkOf l p).2 = 0) : 1 ≤ p ∧ p ≤ 8 ∧ 0 < l.length ∧ l.length ≤ 24 := by
  unfold checkOf at h
  by_cases h1 : p < 1 ∨ 8 < p ∨ l.length = 0 ∨ 24 < l.length
  · rw [if_pos h1] at h; exact absurd h (by decide)
  omega
/-- A key's partition. -/
theorem ctMod {a p : Int} (h1 : 1 ≤ p) (h2 : p ≤ 8) : Int.tmod (wrap64 (Int.tmod a p + p)) p = a % p := by
  have e := Int.tmod_def a p
  have hlt := Int.tmod_lt_of_pos a (show 0 < p by omega)
  have hgt : -p < Int.tmod a p := by
    have := Int.lt_tmod_of_pos a (show 0 < p by omega)
    exact this
  have hw : wrap64 (Int.tmod a p + p) = Int.tmod a p + p := by unfold wrap64; omega
  rw [hw, Int.tmod_eq_emod_of_nonneg (by omega), Int.add_emod_right, e, Int.sub_mul_emod_self_left]
theorem ctPart {l : List Vx} (h : ∀ v ∈ l, I64 v.f3) (p a : Int) : cut_Part.f l p a = some (if (checkOf l p).2 = 0 then a % p else -1) := by
  unfold cut_Part.f cut_may.f
  rw [ctCheck h, Option.bind_some, Option.bind_some]
  by_cases h0 : (checkOf l p).2 = 0
  · have hp := ctPos h0
    rw [if_pos (by simpa using h0), if_neg (by omega), if_pos h0, ctMod hp.1 hp.2.1]
  · rw [if_neg (by simpa using h0), if_neg h0]
end Go.Proofs.Ytlandgbhbfdekaa.Ex
namespace Go.Proofs.Ytlandgbhbfdekaa.Ex
open Go Go.RowKit Go.Proofs.YtlandgbhbfdekaaW.PrintWords Go.Proofs.YtlandgbhbfdekaaW.PrintLast Go.Proofs.YtlandgbhbfdekaaW.PrintMore
set_option linter.unusedVariables false
set_option linter.unusedSimpArgs false
def nlogOk (l : List Vx) (p a b c : Int) : Prop := (checkOf l p).2 = 0 ∧ 0 ≤ a ∧ a < 3 ∧ 0 ≤ b ∧ b < (l.length : Int) ∧ 0 ≤ c ∧ c < p
instance (l : List Vx) (p a b c : Int) : Decidable (nlogOk l p a b c) := by unfold nlogOk; exact inferInstance
def nlogOf (l : List Vx) (p a b c : Int) : Int := if nlogOk l p a b c then (a * (l.length : Int) + b) * p + c else -1
theorem nEight {p : Int} (h1 : 1 ≤ p) (h2 : p ≤ 8) : p = 1 ∨ p = 2 ∨ p = 3 ∨ p = 4 ∨ p = 5 ∨ p = 6 ∨ p = 7 ∨ p = 8 := by omega
theorem nlog_fits {n p a b c : Int} (h1 : 1 ≤ p) (h2 : p ≤ 8) (hn : 0 ≤ n) (hn2 : n ≤ 24) (a0 : 0 ≤ a) (a1 : a < 3) (b0 : 0 ≤ b) (b1 : b < n) (c0 : 0 ≤ c) (c1 : c < p) :
    wrap64 (wrap64 (wrap64 (wrap64 (a * n) + b) * p) + c) = (a * n + b) * p + c := by
  obtain rfl | rfl | rfl : a = 0 ∨ a = 1 ∨ a = 2 := by omega
  all_goals rcases nEight h1 h2 with rfl | rfl | rfl | rfl | rfl | rfl | rfl | rfl
  all_goals (unfold wrap64; omega)
theorem nlog_pos {n p a b c : Int} (h1 : 1 ≤ p) (hn : 0 ≤ n) (a0 : 0 ≤ a) (b0 : 0 ≤ b) (c0 : 0 ≤ c) : 0 ≤ (a * n + b) * p + c := by
  have := Int.mul_nonneg a0 hn
  have := Int.mul_nonneg (show 0 ≤ a * n + b by omega) (show 0 ≤ p by omega)
  omega
theorem nlog_one {n p a b c a' b' c' : Int} (h1 : 1 ≤ p) (h2 : p ≤ 8) (a0 : 0 ≤ a) (a1 : a < 3) (b0 : 0 ≤ b) (b1 : b < n) (c0 : 0 ≤ c) (c1 : c < p) (a0' : 0 ≤ a') (a1' : a' < 3) (b0' : 0 ≤ b') (b1' : b' < n) (c0' : 0 ≤ c') (c1' : c' < p)
    (h : (a * n + b) * p + c = (a' * n + b') * p + c') : a = a' ∧ b = b' ∧ c = c' := by
  have e : a * n + b = a' * n + b' ∧ c = c' := by
    generalize a * n + b = u at h ⊢
    generalize a' * n + b' = v at h ⊢
    rcases nEight h1 h2 with rfl | rfl | rfl | rfl | rfl | rfl | rfl | rfl <;> omega
  obtain ⟨e1, e2⟩ := e
  have e3 : a = a' ∧ b = b' := by
    obtain rfl | rfl | rfl : a = 0 ∨ a = 1 ∨ a = 2 := by omega
    all_goals obtain rfl | rfl | rfl : a' = 0 ∨ a' = 1 ∨ a' = 2 := by omega
    all_goals omega
  exact ⟨e3.1, e3.2, e2⟩
theorem nlog_f {l : List Vx} (h : ∀ v ∈ l, I64 v.f3) (p a b c : Int) : cut_Log.f l p a b c = some (nlogOf l p a b c) := by
  unfold cut_Log.f cut_may.f
  rw [ctCheck h, Option.bind_some, Option.bind_some]
  by_cases h0 : (checkOf l p).2 = 0
  · have hp := ctPos h0
    rw [if_pos (by simpa using h0)]
    by_cases g : 0 ≤ a ∧ a < 3 ∧ 0 ≤ b ∧ b < (l.length : Int) ∧ 0 ≤ c ∧ c < p
    · rw [show nlogOf l p a b c = (a * (l.length : Int) + b) * p + c by unfold nlogOf; rw [if_pos ⟨h0, g⟩], if_neg (by omega), if_neg (by omega), if_neg (by omega), if_neg (by omega), if_neg (by omega), if_neg (by omega), nlog_fits hp.1 hp.2.1 (by omega) (by omega) g.1 g.2.1 g.2.2.1 g.2.2.2.1 g.2.2.2.2.1 g.2.2.2.2.2]
    · rw [show nlogOf l p a b c = -1 by unfold nlogOf; rw [if_neg (fun x => g x.2)]]
      by_cases g1 : a < 0
      · rw [if_pos g1]
      by_cases g2 : a ≥ 3
      · rw [if_neg g1, if_pos g2]
      by_cases g3 : b < 0
      · rw [if_neg g1, if_neg g2, if_pos g3]
      by_cases g4 : b ≥ (l.length : Int)
      · rw [if_neg g1, if_neg g2, if_neg g3, if_pos g4]
      by_cases g5 : c < 0
      · rw [if_neg g1, if_neg g2, if_neg g3, if_neg g4, if_pos g5]
      rw [if_neg g1, if_neg g2, if_neg g3, if_neg g4, if_neg g5, if_pos (by omega)]
  · rw [show nlogOf l p a b c = -1 by unfold nlogOf; rw [if_neg (fun x => h0 x.1)], if_neg (by simpa using h0)]
theorem nlog_same (l : List Vx) (p a b c a' b' c' : Int) (h : ¬ nlogOf l p a b c < 0) (h' : ¬ nlogOf l p a' b' c' < 0) : (nlogOf l p a b c == nlogOf l p a' b' c') = ((a == a') && (b == b') && (c == c')) := by
  by_cases g : nlogOk l p a b c
  · by_cases g' : nlogOk l p a' b' c'
    · have e : nlogOf l p a b c = (a * (l.length : Int) + b) * p + c := by unfold nlogOf; rw [if_pos g]
      have e' : nlogOf l p a' b' c' = (a' * (l.length : Int) + b') * p + c' := by unfold nlogOf; rw [if_pos g']
      rw [e, e']
      obtain ⟨g0, g1, g2, g3, g4, g5, g6⟩ := g
      obtain ⟨_, g1', g2', g3', g4', g5', g6'⟩ := g'
      have hp := ctPos g0
      by_cases hs : a = a' ∧ b = b' ∧ c = c'
      · obtain ⟨rfl, rfl, rfl⟩ := hs
        simp
      · have hne : ¬ (a * (l.length : Int) + b) * p + c = (a' * (l.length : Int) + b') * p + c' := fun h => hs (nlog_one hp.1 hp.2.1 g1 g2 g3 g4 g5 g6 g1' g2' g3' g4' g5' g6' h)
        rw [show ((a * (l.length : Int) + b) * p + c == (a' * (l.length : Int) + b') * p + c') = false by simpa using hne]
        symm
        simp only [Bool.and_eq_false_iff, beq_eq_false_iff_ne, ne_eq]
        by_cases ha : a = a'
        · by_cases hb : b = b'
          · exact .inr (fun hc => hs ⟨ha, hb, hc⟩)
          · exact .inl (.inr hb)
        · exact .inl (.inl ha)
    · exact absurd (show nlogOf l p a' b' c' < 0 by unfold nlogOf; rw [if_neg g']; decide) h'
  · exact absurd (show nlogOf l p a b c < 0 by unfold nlogOf; rw [if_neg g]; decide) h
/-- How many tasks; a task's part and partition. -/
def ntasks (l : List Vx) (p : Int) : Int := if (checkOf l p).2 = 0 then wrap64 (wrap64 (mx (partsOf l) (partsOf l).length + 1) * p) else 0
theorem ntasks_f {l : List Vx} (h : ∀ v ∈ l, I64 v.f3) (p : Int) : cut_Tasks.f l p = some (ntasks l p) := by
  unfold cut_Tasks.f ntasks
  rw [ctParts h, Option.bind_some]
  by_cases h0 : (checkOf l p).2 = 0
  · have h1 := parts_len h0
    have h2 := ctPos h0
    have h3 : partsOf l ≠ [] := fun e => by rw [e] at h1; simp at h1; omega
    simp only [if_pos h0]
    unfold slices_Max_int_int.f
    rw [if_neg h3]
    rfl
  · simp only [if_neg h0]
def nofOk (l : List Vx) (p t : Int) : Prop := 0 ≤ t ∧ t < ntasks l p
instance (l : List Vx) (p t : Int) : Decidable (nofOk l p t) := by unfold nofOk; exact inferInstance
def nof1 (l : List Vx) (p t : Int) : Int := if nofOk l p t then wrap64 (Int.tdiv t p) else -1
def nof2 (l : List Vx) (p t : Int) : Int := if nofOk l p t then Int.tmod t p else -1
theorem nof_pos {l : List Vx} {p t : Int} (h : nofOk l p t) : 1 ≤ p ∧ p ≤ 8 := by
  by_cases h0 : (checkOf l p).2 = 0
  · exact ⟨(ctPos h0).1, (ctPos h0).2.1⟩
  · have := h.2
    unfold ntasks at this
    rw [if_neg h0] at this
    have := h.1
    omega
theorem nof_f {l : List Vx} (h : ∀ v ∈ l, I64 v.f3) (p t : Int) : cut_Of.f l p t = some (nof1 l p t, nof2 l p t) := by
  unfold cut_Of.f nof1 nof2
  rw [ntasks_f h, Option.bind_some]
  by_cases g : nofOk l p t
  · have hp := nof_pos g
    rw [if_pos g, if_pos g, if_neg (by have := g.1; omega), if_neg (by have := g.2; omega), if_neg (by omega)]
  · rw [if_neg g, if_neg g]
    by_cases g1 : t < 0
    · rw [if_pos g1]
    · rw [if_neg g1, if_pos (show t ≥ ntasks l p by unfold nofOk at g; omega)]
theorem nof_back {l : List Vx} {p t : Int} (h0 : 0 ≤ t) (h1 : t < 256) : decide (nof1 l p t ≥ 0) = decide (t < ntasks l p) ∧ (nof1 l p t ≥ 0 → wrap64 (wrap64 (nof1 l p t * p) + nof2 l p t) = t) := by
  unfold nof1 nof2
  by_cases g : nofOk l p t
  · have hp := nof_pos g
    rw [if_pos g, if_pos g]
    have e1 := Int.tdiv_eq_ediv_of_nonneg (b := p) h0
    have e2 := Int.tmod_eq_emod_of_nonneg (b := p) h0
    have d0 := Int.ediv_nonneg h0 (show 0 ≤ p by omega)
    have d1 := Int.ediv_le_self (b := p) h0
    have m0 := Int.emod_nonneg t (show p ≠ 0 by omega)
    have m1 := Int.emod_lt_of_pos t (show 0 < p by omega)
    have e := Int.emod_add_mul_ediv t p
    rw [e1, e2]
    have w1 : wrap64 (t / p) = t / p := by unfold wrap64; omega
    have hm : p * (t / p) = t - t % p := by omega
    have hm2 : t / p * p = t - t % p := by rw [Int.mul_comm]; exact hm
    have w2 : wrap64 (t / p * p) = t / p * p := by rw [hm2]; unfold wrap64; omega
    refine ⟨?_, fun _ => ?_⟩
    · rw [w1, show decide (t < ntasks l p) = true by simpa using g.2]
      simpa using d0
    · rw [w1, w2, hm2]
      unfold wrap64
      omega
  · rw [if_neg g, if_neg g]
    refine ⟨?_, fun h => absurd h (by decide)⟩
    rw [show decide (t < ntasks l p) = false by simp only [decide_eq_false_iff_not]; exact fun h => g ⟨h0, h⟩]
    rfl
end Go.Proofs.Ytlandgbhbfdekaa.Ex
namespace Go.Proofs.Ytlandgbhbfdekaa.Opn
open Go Go.RowKit
theorem okWide_array {P : Program} {w : World} {base : Nat} {t e : TypeId} {n : Nat} {v : Value} (ht : P.underlying t = some (.array n e)) (h : Value.okWide P w .any base t v) : ∃ cs, v = .agg cs ∧ cs.size = P.cellsOf t := by
  simp only [Value.okWide, ht] at h
  obtain ⟨cs, h1, h2, _⟩ := h
  exact ⟨cs, h1, h2⟩
end Go.Proofs.Ytlandgbhbfdekaa.Opn
namespace Go.Proofs.Ytlandgbhbfdekaa.Ex
open Go Go.RowKit Go.Proofs.YtlandgbhbfdekaaW.PrintWords Go.Proofs.YtlandgbhbfdekaaW.PrintLast Go.Proofs.YtlandgbhbfdekaaW.PrintMore
set_option linter.unusedVariables false
set_option linter.unusedSimpArgs false
theorem open_T {w : World} {t : List Vx × Int} {cs : List Value} (h : (Kd.pair (Kd.slice 37 k37) (Kd.int .i64)).K w t cs) : ∃ A c, cs = [.slice A t.1.length c, .int .i64 t.2] ∧ t.1.length ≤ c ∧ Kd.C k37 w A t.1.length t.1 := by
  obtain ⟨_, _, rfl, ⟨A, c, rfl, l1, g1⟩, rfl⟩ := h
  exact ⟨A, c, rfl, l1, g1⟩
theorem open_three {H : Type} {enc : TypeId × Value → H} {P : Program} {t e : TypeId} {k : IntKind} (ht : P.underlying t = some (.array 3 e)) (he : P.underlying e = some (.int k)) (hce : P.cellsOf e = 1) (hct : P.cellsOf t = 3) {w : World} {base : Nat} {sp : Nat → Bool} {held : Bool} {cs : Array Value} {x : DataW H} {ps : List MemPlace} (hs : cs.size = P.cellsOf t)
    (h : DataW.Trod enc P w base sp held t (.agg cs) x ps) : ∃ a b c : Int, cs = #[.int k a, .int k b, .int k c] ∧ (Lit.int k a).wf = true ∧ (Lit.int k b).wf = true ∧ (Lit.int k c).wf = true := by
  obtain ⟨fuel, hf⟩ := h
  rw [hct] at hs
  obtain ⟨l⟩ := cs
  match l, hs with
  | [c0, c1, c2], _ =>
    obtain ⟨y0, y1, y2, n, _, h0, h1, h2⟩ := Go.ChangeShapes.trod_array3 ht hce hf
    obtain ⟨a, ea, _, wa⟩ := DataW.trod_int he h0
    obtain ⟨b, eb, _, wb⟩ := DataW.trod_int he h1
    obtain ⟨c, ec, _, wc⟩ := DataW.trod_int he h2
    injection ea with ea
    injection eb with eb
    injection ec with ec
    exact ⟨a, b, c, by rw [ea, eb, ec], wa, wb, wc⟩
theorem wfq_u8 {n : Int} (h : (Lit.int .u8 n).wf = true) : 0 ≤ n ∧ n < 256 := by
  simp [Lit.wf, IntKind.min, IntKind.max, IntKind.bits, IntKind.signed] at h
  omega
set_option maxHeartbeats 4000000 in
set_option maxRecDepth 1000000 in
theorem numbers_ok (A0 : Option Addr) (c0 : Nat) (l : List Vx) (p a0 a1 a2 b0 b1 b2 t : Int) (w : World) (hC : Kd.C k37 w A0 l.length l) (hc : l.length ≤ c0) (hv : ∀ v ∈ l, vxOk v) (hl : l.length ≤ 1759218604441)
    (wa0 : 0 ≤ a0 ∧ a0 < 256) (wa1 : 0 ≤ a1 ∧ a1 < 256) (wa2 : 0 ≤ a2 ∧ a2 < 256) (wb0 : 0 ≤ b0 ∧ b0 < 256) (wb1 : 0 ≤ b1 ∧ b1 < 256) (wb2 : 0 ≤ b2 ∧ b2 < 256) (wt : 0 ≤ t ∧ t < 256) :
    Calls Try.prog 7 #[.agg #[.slice A0 l.length c0, .int .i64 p], .agg #[.int .u8 a0, .int .u8 a1, .int .u8 a2], .agg #[.int .u8 b0, .int .u8 b1, .int .u8 b2], .int .u8 t] w fun e w' => e = .returned (.bool true) ∧ Below w.heap.size w w' := by
  have HI : Aside0 (∀ v ∈ l, I64 v.f3) := ⟨fun v h => (hv v h).2.2.2⟩
  have HC := Aside0.mk hC
  have HCC := Aside0.mk hc
  obtain ⟨bs, hbs⟩ := ctSmall l p (fun v h => (hv v h).2.2.1) hl
  obtain ⟨ks, hks⟩ := Ev.rounds hbs
  have HKS := Aside0.mk hks
  have HB := Aside0.mk (Below.refl w.heap.size w)
  clear hC hc hv hl hbs hks
  have HBK := Aside0.mk (nof_back (l := l) (p := p) wt.1 wt.2)
  have m0 : 0 ≤ Int.tmod a0 4 ∧ Int.tmod a0 4 < 4 := ⟨Int.tmod_nonneg _ wa0.1, Int.tmod_lt_of_pos _ (by decide)⟩
  have m1 : 0 ≤ Int.tmod b0 4 ∧ Int.tmod b0 4 < 4 := ⟨Int.tmod_nonneg _ wb0.1, Int.tmod_lt_of_pos _ (by decide)⟩
  go_enter Try.func7, Try.ntmps7
  go_upto_region 1 with fail
  have BT := Aside0.mk (heap_alloc_new w (.cells #[.slice A0 l.length c0, .int .i64 p] 24 (0, 0)))
  have hb_ := below_alloc (Below.refl w.heap.size w) (.cells #[.slice A0 l.length c0, .int .i64 p] 24 (0, 0))
  have hs_ : (w.alloc (.cells #[.slice A0 l.length c0, .int .i64 p] 24 (0, 0))).heap.size = w.heap.size + 1 := by simp
  generalize w.alloc (.cells #[.slice A0 l.length c0, .int .i64 p] 24 (0, 0)) = w1 at BT hb_ hs_ ⊢
  replace HB := Aside0.mk (below_step HB.out hb_)
  clear hb_
  have HS1 := Aside0.mk hs_
  clear hs_
  have BA := Aside0.mk (heap_alloc_new w1 (.cells #[.int .u8 a0, .int .u8 a1, .int .u8 a2] 51 (0, 0)))
  have hb_ := below_alloc (Below.refl w1.heap.size w1) (.cells #[.int .u8 a0, .int .u8 a1, .int .u8 a2] 51 (0, 0))
  have hs_ : (w1.alloc (.cells #[.int .u8 a0, .int .u8 a1, .int .u8 a2] 51 (0, 0))).heap.size = w1.heap.size + 1 := by simp
  generalize w1.alloc (.cells #[.int .u8 a0, .int .u8 a1, .int .u8 a2] 51 (0, 0)) = w2 at BA hb_ hs_ ⊢
  replace BT := Aside0.mk (blk_below BT.out hb_)
  replace HB := Aside0.mk (below_step HB.out hb_)
  clear hb_
  have HS2 := Aside0.mk hs_
  clear hs_
  have BB := Aside0.mk (heap_alloc_new w2 (.cells #[.int .u8 b0, .int .u8 b1, .int .u8 b2] 51 (0, 0)))
  have hb_ := below_alloc (Below.refl w2.heap.size w2) (.cells #[.int .u8 b0, .int .u8 b1, .int .u8 b2] 51 (0, 0))
  have hs_ : (w2.alloc (.cells #[.int .u8 b0, .int .u8 b1, .int .u8 b2] 51 (0, 0))).heap.size = w2.heap.size + 1 := by simp
  generalize w2.alloc (.cells #[.int .u8 b0, .int .u8 b1, .int .u8 b2] 51 (0, 0)) = w3 at BB hb_ hs_ ⊢
  replace BT := Aside0.mk (blk_below BT.out hb_)
  replace BA := Aside0.mk (blk_below BA.out hb_)
  replace HB := Aside0.mk (below_step HB.out hb_)
  clear hb_
  clear hs_
  obtain ⟨gb, HG3⟩ : ∃ g, Aside0 (w.heap.size + 1 + 1 = g) := ⟨_, ⟨rfl⟩⟩
  obtain ⟨ga, HG2⟩ : ∃ g, Aside0 (w.heap.size + 1 = g) := ⟨_, ⟨rfl⟩⟩
  rw [HS2.out, HS1.out, HG3.out] at BB
  rw [HS1.out, HG2.out] at BA
  rw [HG3.out, HG2.out]
  clear HS1 HS2 HG2 HG3
  obtain ⟨gt, HG1⟩ : ∃ g, Aside0 (w.heap.size = g) := ⟨_, ⟨rfl⟩⟩
  rw [HG1.out] at BT ⊢
  clear HG1
  go_wp2_with fail
  refine (tidemilllaw16_shown.calls 40 true _ ctShown40).mono ?_
  rintro e_ w4 ⟨rfl, hb_⟩
  replace BT := Aside0.mk (blk_below BT.out hb_)
  replace BA := Aside0.mk (blk_below BA.out hb_)
  replace BB := Aside0.mk (blk_below BB.out hb_)
  replace HB := Aside0.mk (below_step HB.out hb_)
  clear hb_
  have t0_ := (blk_cell BT.out 0).trans (rfl : _ = some (.slice A0 l.length c0 : Value))
  have t1_ := (blk_cell BT.out 1).trans (rfl : _ = some (.int .i64 p : Value))
  go_wp2_with fail
  refine (tidemilllaw16_small.calls ks A0 c0 l p bs _ (Kd.C_below HC.out HB.out) HCC.out HKS.out).mono ?_
  rintro e_ w5 ⟨rfl, hb_⟩
  clear t0_ t1_
  replace BT := Aside0.mk (blk_below BT.out hb_)
  replace BA := Aside0.mk (blk_below BA.out hb_)
  replace BB := Aside0.mk (blk_below BB.out hb_)
  replace HB := Aside0.mk (below_step HB.out hb_)
  clear hb_
  cases bs with
  | false =>
    go_wp2_with fail
    go_ret
    exact ⟨rfl, HB.out⟩
  | true =>
    skip
    have t0_ := (blk_cell BT.out 0).trans (rfl : _ = some (.slice A0 l.length c0 : Value))
    have t1_ := (blk_cell BT.out 1).trans (rfl : _ = some (.int .i64 p : Value))
    have a0_ := (blk_cell BA.out 0).trans (rfl : _ = some (.int .u8 a0 : Value))
    have a1_ := (blk_cell BA.out 1).trans (rfl : _ = some (.int .u8 a1 : Value))
    have a2_ := (blk_cell BA.out 2).trans (rfl : _ = some (.int .u8 a2 : Value))
    go_wp2_with fail
    refine (cut_Log.calls A0 c0 l p _ _ _ _ _ (Kd.C_below HC.out HB.out) HCC.out (nlog_f HI.out p _ _ _)).mono ?_
    rintro e_ w6 ⟨rfl, hb_⟩
    clear t0_ t1_ a0_ a1_ a2_
    generalize hx_ : nlogOf l p (a0 % 4) a1 a2 = x
    have HX := Aside0.mk hx_
    clear hx_
    replace BT := Aside0.mk (blk_below BT.out hb_)
    replace BA := Aside0.mk (blk_below BA.out hb_)
    replace BB := Aside0.mk (blk_below BB.out hb_)
    replace HB := Aside0.mk (below_step HB.out hb_)
    clear hb_
    have t0_ := (blk_cell BT.out 0).trans (rfl : _ = some (.slice A0 l.length c0 : Value))
    have t1_ := (blk_cell BT.out 1).trans (rfl : _ = some (.int .i64 p : Value))
    have b0_ := (blk_cell BB.out 0).trans (rfl : _ = some (.int .u8 b0 : Value))
    have b1_ := (blk_cell BB.out 1).trans (rfl : _ = some (.int .u8 b1 : Value))
    have b2_ := (blk_cell BB.out 2).trans (rfl : _ = some (.int .u8 b2 : Value))
    go_wp2_with fail
    refine (cut_Log.calls A0 c0 l p _ _ _ _ _ (Kd.C_below HC.out HB.out) HCC.out (nlog_f HI.out p _ _ _)).mono ?_
    rintro e_ w7 ⟨rfl, hb_⟩
    clear t0_ t1_ b0_ b1_ b2_
    generalize hx_ : nlogOf l p (b0 % 4) b1 b2 = y
    have HY := Aside0.mk hx_
    clear hx_
    replace BT := Aside0.mk (blk_below BT.out hb_)
    replace BA := Aside0.mk (blk_below BA.out hb_)
    replace BB := Aside0.mk (blk_below BB.out hb_)
    replace HB := Aside0.mk (below_step HB.out hb_)
    clear hb_
    have t0_ := (blk_cell BT.out 0).trans (rfl : _ = some (.slice A0 l.length c0 : Value))
    have t1_ := (blk_cell BT.out 1).trans (rfl : _ = some (.int .i64 p : Value))
    go_wp2_with fail
    refine (cut_Of.calls A0 c0 l p _ _ _ _ (Kd.C_below HC.out HB.out) HCC.out (nof_f HI.out p _)).mono ?_
    rintro e_ w8 ⟨rfl, hb_⟩
    clear t0_ t1_
    generalize hn_ : nof1 l p t = n at HBK ⊢
    generalize hq_ : nof2 l p t = q at HBK ⊢
    clear hn_ hq_
    replace BT := Aside0.mk (blk_below BT.out hb_)
    replace BA := Aside0.mk (blk_below BA.out hb_)
    replace BB := Aside0.mk (blk_below BB.out hb_)
    replace HB := Aside0.mk (below_step HB.out hb_)
    clear hb_
    have t0_ := (blk_cell BT.out 0).trans (rfl : _ = some (.slice A0 l.length c0 : Value))
    have t1_ := (blk_cell BT.out 1).trans (rfl : _ = some (.int .i64 p : Value))
    have HSM : Aside0 (¬ x < 0 → ¬ y < 0 → (x == y) = ((a0 % 4 == b0 % 4) && (a1 == b1) && (a2 == b2))) := ⟨by rw [← HX.out, ← HY.out]; exact nlog_same l p _ _ _ _ _ _⟩
    go_wp2_with fail
    refine (cut_Tasks.calls A0 c0 l p _ _ (Kd.C_below HC.out HB.out) HCC.out (ntasks_f HI.out p)).mono ?_
    rintro e_ w9 ⟨rfl, hb_⟩
    clear t0_ t1_
    generalize hT_ : ntasks l p = T at HBK ⊢
    clear hT_
    replace BT := Aside0.mk (blk_below BT.out hb_)
    replace BA := Aside0.mk (blk_below BA.out hb_)
    replace BB := Aside0.mk (blk_below BB.out hb_)
    replace HB := Aside0.mk (below_step HB.out hb_)
    clear hb_
    have t0_ := (blk_cell BT.out 0).trans (rfl : _ = some (.slice A0 l.length c0 : Value))
    have t1_ := (blk_cell BT.out 1).trans (rfl : _ = some (.int .i64 p : Value))
    have a0_ := (blk_cell BA.out 0).trans (rfl : _ = some (.int .u8 a0 : Value))
    have a1_ := (blk_cell BA.out 1).trans (rfl : _ = some (.int .u8 a1 : Value))
    have a2_ := (blk_cell BA.out 2).trans (rfl : _ = some (.int .u8 a2 : Value))
    have b0_ := (blk_cell BB.out 0).trans (rfl : _ = some (.int .u8 b0 : Value))
    have b1_ := (blk_cell BB.out 1).trans (rfl : _ = some (.int .u8 b1 : Value))
    have b2_ := (blk_cell BB.out 2).trans (rfl : _ = some (.int .u8 b2 : Value))
    by_cases hn : n ≥ 0
    · have hn1 : decide (n ≥ 0) = true := by simpa using hn
      have hn2 : decide (t < T) = true := by rw [← HBK.out.1]; exact hn1
      have hn3 := HBK.out.2 hn
      have hn4 : (wrap64 (wrap64 (n * p) + q) != t) = false := by simp [hn3]
      have HN3 := Aside0.mk hn3
      clear hn hn3
      go_upto_region 9 with fail
      clear hn1 hn2
      obtain ⟨s0, h0⟩ : ∃ s, (a0 % 4 == b0 % 4) = s := ⟨_, rfl⟩
      obtain ⟨s1, h1⟩ : ∃ s, (a1 == b1) = s := ⟨_, rfl⟩
      obtain ⟨s2, h2⟩ : ∃ s, (a2 == b2) = s := ⟨_, rfl⟩
      have hs := HSM.out
      rw [h0, h1, h2] at hs
      cases s0 <;> cases s1 <;> cases s2 <;> simp only [Bool.and_true, Bool.and_false, Bool.true_and, Bool.false_and] at hs
      all_goals
        have HS := Aside0.mk hs
        clear hs
        go_upto_region 10 with fail
        clear t0_ t1_ a0_ a1_ a2_ b0_ b1_ b2_ h0 h1 h2
        by_cases gx : x < 0
        · have gx1 : decide (x < 0) = true := by simpa using gx
          go_wp2_with fail
          go_ret
          exact ⟨rfl, HB.out⟩
        · have gx1 : decide (x < 0) = false := by simpa using gx
          by_cases gy : y < 0
          · have gy1 : decide (y < 0) = true := by simpa using gy
            go_wp2_with fail
            go_ret
            exact ⟨rfl, HB.out⟩
          · have gy1 : decide (y < 0) = false := by simpa using gy
            have hxy := HS.out (by omega) (by omega)
            clear gx gy
            go_wp2_with fail
            go_ret
            exact ⟨rfl, HB.out⟩
    · have hn1 : decide (n ≥ 0) = false := by simpa using hn
      have hn2 : decide (t < T) = false := by rw [← HBK.out.1]; exact hn1
      clear hn
      go_upto_region 9 with fail
      clear hn1 hn2
      obtain ⟨s0, h0⟩ : ∃ s, (a0 % 4 == b0 % 4) = s := ⟨_, rfl⟩
      obtain ⟨s1, h1⟩ : ∃ s, (a1 == b1) = s := ⟨_, rfl⟩
      obtain ⟨s2, h2⟩ : ∃ s, (a2 == b2) = s := ⟨_, rfl⟩
      have hs := HSM.out
      rw [h0, h1, h2] at hs
      cases s0 <;> cases s1 <;> cases s2 <;> simp only [Bool.and_true, Bool.and_false, Bool.true_and, Bool.false_and] at hs
      all_goals
        have HS := Aside0.mk hs
        clear hs
        go_upto_region 10 with fail
        clear t0_ t1_ a0_ a1_ a2_ b0_ b1_ b2_ h0 h1 h2
        by_cases gx : x < 0
        · have gx1 : decide (x < 0) = true := by simpa using gx
          go_wp2_with fail
          go_ret
          exact ⟨rfl, HB.out⟩
        · have gx1 : decide (x < 0) = false := by simpa using gx
          by_cases gy : y < 0
          · have gy1 : decide (y < 0) = true := by simpa using gy
            go_wp2_with fail
            go_ret
            exact ⟨rfl, HB.out⟩
          · have gy1 : decide (y < 0) = false := by simpa using gy
            have hxy := HS.out (by omega) (by omega)
            clear gx gy
            go_wp2_with fail
            go_ret
            exact ⟨rfl, HB.out⟩
end Go.Proofs.Ytlandgbhbfdekaa.Ex
