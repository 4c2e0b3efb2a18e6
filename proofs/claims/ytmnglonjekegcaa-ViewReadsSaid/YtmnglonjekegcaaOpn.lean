/- What a parameter's memory holds, out of how it reads: kind by kind. -/
import Derived.Test.YtmnglonjekegcaaWWords
import Derived.ChangeArms
import Derived.DataReads
import Derived.OpenShut
namespace Go.Proofs.Ytmnglonjekegcaa.Opn
open Go Go.RowKit Go.Proofs.YtmnglonjekegcaaW.PrintWords
set_option linter.unusedVariables false
set_option linter.unusedSimpArgs false
section
variable {H : Type} {enc : TypeId × Value → H} {P : Program} {α β : Type}
/-- Whatever reads at type e is of kind d, and its datum is as G says. -/
def Opens (enc : TypeId × Value → H) (P : Program) (d : Kd α) (e : TypeId) (G : α → DataW H → Prop) : Prop :=
  ∀ (w : World) (base : Nat) (sp : Nat → Bool) (held : Bool) (fuel : Nat) (cs : List Value) (x : DataW H × List MemPlace), DataW.trod enc P w base sp held fuel e cs = some x → ∃ a, d.K w a cs ∧ G a x.1
def OpensF (enc : TypeId × Value → H) (P : Program) (d : Kd α) (fs : List Field) (off : Nat) (G : α → List (DataW H) → Prop) : Prop :=
  ∀ (w : World) (base : Nat) (sp : Nat → Bool) (held : Bool) (n : Nat) (cs : List Value) (xs : List (DataW H × List MemPlace)), xs.length = fs.length →
    (∀ (i : Nat) (f : Field), fs[i]? = some f → DataW.trod enc P w base sp held n f.type ((cs.drop f.offset).take (P.cellsOf f.type)) = xs[i]?) → ∃ a, d.K w a ((cs.drop off).take d.sz) ∧ G a (xs.map (·.1))
def GInt (k : IntKind) (a : Int) (x : DataW H) : Prop := x = .lit (.int k a) ∧ (Lit.int k a).wf = true
def GBool (a : Bool) (x : DataW H) : Prop := x = .lit (.bool a)
def GSlice (G : α → DataW H → Prop) (xs : List α) (x : DataW H) : Prop :=
  xs.length ≤ maxLen ∧ ((xs = [] ∧ x = .nil) ∨ ∃ ds rest : List (DataW H), x = .slice ds rest ∧ ds.length = xs.length ∧ ∀ (i : Nat) (a : α) (y : DataW H), xs[i]? = some a → ds[i]? = some y → G a y)
def GAgg (G : α → List (DataW H) → Prop) (a : α) (x : DataW H) : Prop := ∃ l, x = .agg l ∧ G a l
def GOne (G : α → DataW H → Prop) (a : α) (l : List (DataW H)) : Prop := ∃ x, l = [x] ∧ G a x
def GCons (G : α → DataW H → Prop) (G' : β → List (DataW H) → Prop) (a : α × β) (l : List (DataW H)) : Prop := ∃ x r, l = x :: r ∧ G a.1 x ∧ G' a.2 r
theorem opens_int {e : TypeId} {k : IntKind} (he : P.underlying e = some (.int k)) : Opens enc P (Kd.int k) e (GInt k) := by
  intro w base sp held fuel cs x h
  obtain ⟨n, hc, hx, hw⟩ := DataW.trod_int he h
  exact ⟨n, hc, by rw [hx], hw⟩
theorem opens_bool {e : TypeId} (he : P.underlying e = some .bool) : Opens enc P Kd.bool e GBool := by
  intro w base sp held fuel cs x h
  obtain ⟨n, hc, hx⟩ := DataW.trod_bool he h
  exact ⟨n, hc, by rw [hx]; rfl⟩
theorem choose_list {Q : Nat → α → Prop} : ∀ n, (∀ i, i < n → ∃ a, Q i a) → ∃ xs : List α, xs.length = n ∧ ∀ i a, xs[i]? = some a → Q i a := by
  intro n
  induction n with
  | zero => intro _; exact ⟨[], rfl, fun i a h => by simp at h⟩
  | succ n ih =>
    intro h
    obtain ⟨xs, hl, hx⟩ := ih (fun i hi => h i (by omega))
    obtain ⟨a, ha⟩ := h n (by omega)
    refine ⟨xs ++ [a], by simp [hl], fun i b hb => ?_⟩
    by_cases hi : i < xs.length
    · rw [List.getElem?_append_left hi] at hb
      exact hx i b hb
    · rw [List.getElem?_append_right (by omega)] at hb
      by_cases e : i = n
      · subst e
        rw [hl, Nat.sub_self] at hb
        injection hb with hb
        rw [← hb]
        exact ha
      · rw [List.getElem?_eq_none (by simp; omega)] at hb
        cases hb
theorem add_add (a : Addr) (i j : Nat) : (a.add i).add j = a.add (i + j) := by
  unfold Addr.add
  repeat' split
  all_goals simp_all [Nat.add_assoc]
theorem opens_slice {t e e' : TypeId} {d : Kd α} {G : α → DataW H → Prop} (ht : P.underlying t = some (.slice e)) (hd : Opens enc P d e G) (hsz : P.cellsOf e = d.sz) : Opens enc P (Kd.slice e' d) t (GSlice G) := by
  intro w base sp held fuel cs x h
  rcases DataW.trod_slice ht h with ⟨hc, hx⟩ | ⟨A, len, cap, elems, rest, n, _, hc, hx, hb, hl, hm, hlen, hel, _, _⟩
  · subst hc
    subst hx
    exact ⟨[], ⟨none, 0, rfl, Nat.le_refl _, Kd.C_nil _ _⟩, Nat.zero_le _, .inl ⟨rfl, rfl⟩⟩
  · obtain ⟨xs, hxl, hxs⟩ := choose_list (Q := fun i a => ∃ c y, w.cells? base (A.add (i * d.sz)) d.sz = some c ∧ d.K w a c ∧ elems[i]? = some y ∧ G a y.1) len (fun i hi => by
      have h1 := hel i hi
      rw [List.getElem?_eq_getElem (by omega)] at h1
      rw [Option.bind_eq_some_iff] at h1
      obtain ⟨c, hc, hy⟩ := h1
      obtain ⟨a, ha, hg⟩ := hd _ _ _ _ _ _ _ hy
      rw [hsz] at hc
      exact ⟨a, c, _, hc, ha, List.getElem?_eq_getElem (by omega), hg⟩)
    subst hx
    have hmx : maxLen ≤ 9223372036854775807 := by decide
    refine ⟨xs, ⟨some A, cap, by rw [hxl, hc], by omega, ?_⟩, by omega, .inr ⟨_, _, rfl, by rw [List.length_map]; omega, fun i a y ha hy => ?_⟩⟩
    · refine ⟨rfl, by omega, fun _ => ⟨A, rfl, fun j p hj => ?_⟩⟩
      obtain ⟨c, y, h1, h2, _, _⟩ := hxs j p hj
      have h3 := World.cells?_some h1
      refine ⟨c, h3.2.1, h2, fun i u hu => ?_⟩
      have hi : i < d.sz := by have := (List.getElem?_eq_some_iff.1 hu).1; omega
      rw [← add_add, h3.2.2 i hi, hu]
    · obtain ⟨c, z, _, _, h3, h4⟩ := hxs i a ha
      rw [List.getElem?_map, h3] at hy
      injection hy with hy
      rw [← hy]
      exact h4
theorem opensF_one {f : Field} {d : Kd α} {G : α → DataW H → Prop} {off : Nat} (ho : f.offset = off) (hs : P.cellsOf f.type = d.sz) (hd : Opens enc P d f.type G) : OpensF enc P d [f] off (GOne G) := by
  intro w base sp held n cs xs hl h
  match xs, hl with
  | [y], _ =>
    obtain ⟨a, ha, hg⟩ := hd _ _ _ _ _ _ _ (h 0 f rfl)
    rw [ho, hs] at ha
    exact ⟨a, ha, _, rfl, hg⟩
theorem opensF_cons {f : Field} {fs : List Field} {d : Kd α} {d' : Kd β} {G : α → DataW H → Prop} {G' : β → List (DataW H) → Prop} {off off' : Nat} (ho : f.offset = off) (hs : P.cellsOf f.type = d.sz) (he : off + d.sz = off') (hd : Opens enc P d f.type G) (hd' : OpensF enc P d' fs off' G') :
    OpensF enc P (Kd.pair d d') (f :: fs) off (GCons G G') := by
  intro w base sp held n cs xs hl h
  match xs, hl with
  | y :: ys, hl =>
    obtain ⟨a, ha, hg⟩ := hd _ _ _ _ _ _ _ (h 0 f rfl)
    obtain ⟨b, hb, hg'⟩ := hd' w base sp held n cs ys (by simpa using hl) (fun i f hf => h (i + 1) f (by simpa using hf))
    rw [ho, hs] at ha
    refine ⟨(a, b), ⟨_, _, ?_, ha, hb⟩, _, _, rfl, hg, hg'⟩
    show (cs.drop off).take (d.sz + d'.sz) = _
    rw [List.take_add, List.drop_drop, he]
theorem opens_struct {t : TypeId} {fs : Array Field} {l : List Field} {d : Kd α} {G : α → List (DataW H) → Prop} (ht : P.underlying t = some (.struct fs)) (hl : fs.toList = l) (hs : P.cellsOf t = d.sz) (hd : OpensF enc P d l 0 G) : Opens enc P d t (GAgg G) := by
  intro w base sp held fuel cs x h
  obtain ⟨xs, n, _, hx, hc, hlen, hf⟩ := DataW.trod_struct ht h
  obtain ⟨a, ha, hg⟩ := hd w base sp held n cs xs (by rw [hlen, ← hl]; simp) (fun i f hf' => hf i f (by rw [← hl] at hf'; simpa using hf'))
  rw [List.drop_zero, List.take_of_length_le (by omega)] at ha
  exact ⟨a, ha, _, by rw [hx], hg⟩
theorem opens_iso {e : TypeId} {d : Kd α} {G : α → DataW H → Prop} (f : β → α) (g : α → β) (hfg : ∀ a, f (g a) = a) (hd : Opens enc P d e G) : Opens enc P (Kd.iso d f) e (fun b x => G (f b) x) := by
  intro w base sp held fuel cs x h
  obtain ⟨a, ha, hg⟩ := hd _ _ _ _ _ _ _ h
  exact ⟨g a, by show d.K w (f (g a)) cs; rw [hfg]; exact ha, by show G (f (g a)) x.1; rw [hfg]; exact hg⟩
/-- A parameter that is a slice. -/
theorem open_slice {t e' : TypeId} {d : Kd α} {G : α → DataW H → Prop} (h : Opens enc P (Kd.slice e' d) t (GSlice G)) {w : World} {base : Nat} {sp : Nat → Bool} {held : Bool} {A : Option Addr} {n c : Nat} {x : DataW H} {ps : List MemPlace}
    (ht : DataW.Trod enc P w base sp held t (.slice A n c) x ps) : ∃ xs : List α, n = xs.length ∧ xs.length ≤ c ∧ d.C w A xs.length xs ∧ GSlice G xs x := by
  obtain ⟨fuel, hf⟩ := ht
  obtain ⟨xs, ⟨A', c', hcs, hl, hC⟩, hg⟩ := h _ _ _ _ _ _ _ hf
  simp [Value.cells] at hcs
  obtain ⟨rfl, rfl, rfl⟩ := hcs
  exact ⟨xs, rfl, hl, hC, hg⟩
end
end Go.Proofs.Ytmnglonjekegcaa.Opn
