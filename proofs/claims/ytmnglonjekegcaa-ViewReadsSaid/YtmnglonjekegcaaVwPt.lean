/- Texts of this claim, joined. -/
import Derived.Test.YtmnglonjekegcaaVwOfI
import Derived.Test.YtmnglonjekegcaaVwNm
import Derived.Test.YtmnglonjekegcaaVwOfW
namespace Go.Proofs.Ytmnglonjekegcaa.Vw
open Go Go.RowKit Go.Proofs.Ytmnglonjekegcaa.Rp
set_option linter.unusedVariables false
set_option linter.unusedSimpArgs false
/-- The places that were done at i. -/
def doneAt (o : OS) (i : Int) : List Int := ((o.d.zip o.a).filter fun p => p.2 == i).map Prod.fst
theorem zip_const (e : List Int) (m i : Int) : ((e.zip (e.map fun _ => m)).filter fun p => p.2 == i).map Prod.fst = if m = i then e else [] := by
  induction e with
  | nil => split <;> rfl
  | cons a e ih =>
    rw [List.map_cons, List.zip_cons_cons]
    by_cases h : m = i
    · rw [if_pos h] at ih ⊢
      rw [List.filter_cons_of_pos (by simpa using h), List.map_cons, ih]
    · rw [if_neg h] at ih ⊢
      rw [List.filter_cons_of_neg (by simpa using h), ih]
theorem doneAt_step {m : Nat} {k : Int} {o : OS} (h : OInv m k o) (x : S47) (i : Int) : doneAt (stepOS (m : Int) x o) i = doneAt o i ++ if isCm o.s x ∧ (m : Int) = i then opens o.s else [] := by
  unfold stepOS doneAt
  by_cases hc : isCm o.s x
  · rw [if_pos hc, if_pos hc]
    show List.map _ (List.filter _ ((o.d ++ opens o.s).zip (o.a ++ (opens o.s).map fun _ => (m : Int)))) = _
    rw [List.zip_append h.da.symm, List.filter_append, List.map_append, zip_const]
    congr 1
    by_cases hm : (m : Int) = i
    · rw [if_pos hm, if_pos ⟨hc, hm⟩]
    · rw [if_neg hm, if_neg fun e => hm e.2]
  · rw [if_neg hc, if_neg hc, if_neg fun e => hc e.1, List.append_nil]
/-- What was done at a place: what was open at its commit. -/
theorem doneAt_of (l : List S47) (k : Int) {i : Nat} {x : S47} (hx : l[i]? = some x) : doneAt (ofO l k) (i : Int) = if mine k x = true ∧ isCm (ofO (l.take i) k).s x then opens (ofO (l.take i) k).s else [] := by
  have key : ∀ m, m ≤ l.length → doneAt (ofO (l.take m) k) (i : Int) = if i < m ∧ mine k x = true ∧ isCm (ofO (l.take i) k).s x then opens (ofO (l.take i) k).s else [] := by
    intro m
    induction m with
    | zero => intro _; rw [List.take_zero, if_neg (fun e => by omega)]; rfl
    | succ m ih =>
      intro hm
      have ho := OInv.of (l.take m) k
      rw [List.length_take, Nat.min_eq_left (by omega)] at ho
      rw [List.take_succ_eq_append_getElem (by omega), ofO_snoc, List.length_take, Nat.min_eq_left (by omega)]
      by_cases hi : i = m
      · subst hi
        have hxe : l[i] = x := by rw [List.getElem?_eq_getElem (by omega)] at hx; injection hx
        rw [hxe]
        have h0 := ih (by omega)
        rw [if_neg (fun e => by omega)] at h0
        by_cases hmi : mine k x = true
        · rw [if_pos hmi, doneAt_step ho, h0, List.nil_append]
          by_cases hc : isCm (ofO (l.take i) k).s x
          · rw [if_pos ⟨hc, rfl⟩, if_pos ⟨by omega, hmi, hc⟩]
          · rw [if_neg (fun e => hc e.1), if_neg (fun e => hc e.2.2)]
        · rw [if_neg hmi, h0, if_neg (fun e => hmi e.2.1)]
      · have h1 : doneAt (if mine k l[m] = true then stepOS (m : Int) l[m] (ofO (l.take m) k) else ofO (l.take m) k) (i : Int) = doneAt (ofO (l.take m) k) (i : Int) := by
          split
          · rw [doneAt_step ho, if_neg (fun e => by have := e.2; omega), List.append_nil]
          · rfl
        rw [h1, ih (by omega)]
        by_cases hlt : i < m
        · simp only [hlt, show i < m + 1 by omega, true_and]
        · rw [if_neg (fun e => hlt e.1), if_neg (fun e => by omega)]
  have hl := (List.getElem?_eq_some_iff.1 hx).1
  have := key l.length (Nat.le_refl _)
  rw [List.take_length] at this
  rw [this]
  simp only [hl, true_and]
/-- What the entry at i puts, in places. -/
def putPl (l : List S47) (i : Nat) (x : S47) : List Int := (if mayE x = true ∧ x.f0 = 1 then [(i : Int)] else []) ++ (namesV l).flatMap fun k => doneAt (ofO l k) (i : Int)
theorem flat_one {l : List Int} (hn : l.Nodup) {f : Int → List Int} {a : Int} (h : ∀ k ∈ l, k ≠ a → f k = []) (ha : a ∈ l) : l.flatMap f = f a := by
  induction l with
  | nil => cases ha
  | cons y l ih =>
    rw [List.nodup_cons] at hn
    rw [List.flatMap_cons]
    by_cases hy : y = a
    · subst hy
      have : l.flatMap f = [] := List.flatMap_eq_nil_iff.2 fun k hk => h k (by simp [hk]) fun e => hn.1 (e ▸ hk)
      rw [this, List.append_nil]
    · rw [h y (by simp) hy, List.nil_append, ih hn.2 (fun k hk => h k (by simp [hk])) ((List.mem_cons.1 ha).resolve_left fun e => hy e.symm)]
theorem flat_none {l : List Int} {f : Int → List Int} (h : ∀ k ∈ l, f k = []) : l.flatMap f = [] := List.flatMap_eq_nil_iff.2 h
theorem names_nodup (l : List S47) : (namesV l).Nodup := by rw [namesV_keys]; exact sortI_nodup (KInv.through l).ndT
theorem names_in {l : List S47} {x : S47} (hx : x ∈ l) (ht : tk x = true) : x.f1 ∈ namesV l := by
  rw [namesV_keys, sortI_mem, through_split]
  show x.f1 ∈ (goT [] 0 l).map _
  rw [keys_go]
  exact .inr ⟨x, hx, ht, rfl⟩
theorem putPl_is (l : List S47) {i : Nat} {x : S47} (hx : l[i]? = some x) : putPl l i x = (putsAt (goT [] 0 (l.take i)) (i : Int) x).map Prod.fst := by
  have hmem : x ∈ l := List.mem_of_getElem? hx
  have hs : ∀ k, (ofO (l.take i) k).s = getT (goT [] 0 (l.take i)) k := fun k => by rw [ofO_s, through_split]
  have hf : ∀ k, doneAt (ofO l k) (i : Int) = if mine k x = true ∧ isCm (ofO (l.take i) k).s x then opens (ofO (l.take i) k).s else [] := fun k => doneAt_of l k hx
  unfold putPl putsAt
  by_cases h1 : mayE x = true ∧ x.f0 = 1
  · have hnt : ∀ k, ¬ (mine k x = true) := fun k e => by
      unfold mine at e
      simp only [Bool.and_eq_true] at e
      have := (tk_of e.1).2
      omega
    rw [if_pos h1, if_pos h1, flat_none fun k _ => by rw [hf k, if_neg fun e => hnt k e.1]]
    rfl
  · rw [if_neg h1, if_neg h1, List.nil_append]
    by_cases h2 : tk x = true ∧ x.f0 = 3 ∧ x.f2 = (getT (goT [] 0 (l.take i)) x.f1).t.f1 ∧ x.f3 = (getT (goT [] 0 (l.take i)) x.f1).t.f2
    · have hm : mine x.f1 x = true := by unfold mine; simp [h2.1]
      have hc : isCm (ofO (l.take i) x.f1).s x := by unfold isCm; rw [hs]; exact h2.2
      rw [if_pos h2, flat_one (names_nodup l) (a := x.f1) (fun k _ hk => by rw [hf k, if_neg fun e => hk (by have := e.1; unfold mine at this; simp only [Bool.and_eq_true, beq_iff_eq] at this; exact this.2.symm)]) (names_in hmem h2.1), hf, if_pos ⟨hm, hc⟩, hs]
      rfl
    · rw [if_neg h2, flat_none fun k _ => by
        rw [hf k, if_neg fun e => h2 ?_]
        obtain ⟨e1, e2⟩ := e
        unfold mine at e1
        simp only [Bool.and_eq_true, beq_iff_eq] at e1
        unfold isCm at e2
        rw [hs, ← e1.2] at e2
        exact ⟨e1.1, e2⟩]
      rfl
def placesV (l : List S47) : List Int := (putsV l).map Prod.fst
theorem puts_take (l : List S47) {i : Nat} {x : S47} (hx : l[i]? = some x) : putsV (l.take (i + 1)) = putsV (l.take i) ++ putsAt (goT [] 0 (l.take i)) (i : Int) x := by
  obtain ⟨h, e⟩ := List.getElem?_eq_some_iff.1 hx
  rw [List.take_succ_eq_append_getElem h, e]
  unfold putsV
  rw [goP_append, goP, goP, List.append_nil, List.length_take, Nat.min_eq_left (by omega), Int.zero_add]
theorem places_take (l : List S47) {i : Nat} {x : S47} (hx : l[i]? = some x) : placesV (l.take (i + 1)) = placesV (l.take i) ++ putPl l i x := by
  unfold placesV
  rw [puts_take l hx, List.map_append, putPl_is l hx]
/-- What is put lies at its place. -/
theorem goP_pairs {Pr : Int × S47 → Prop} (l : List S47) : ∀ (T : List TS) (i : Int), (∀ (j : Nat) x, l[j]? = some x → Pr (i + j, x)) → (∀ k, ∀ p ∈ (getT T k).o, Pr p) → ∀ p ∈ goP T i l, Pr p := by
  induction l with
  | nil => intro T i _ _ p hp; cases hp
  | cons x l ih =>
    intro T i hx hT p hp
    have h0 : Pr (i, x) := by have := hx 0 x rfl; simpa using this
    rw [goP] at hp
    rcases List.mem_append.1 hp with hp | hp
    · unfold putsAt at hp
      split at hp
      · rw [List.mem_singleton] at hp; subst hp; exact h0
      · split at hp
        · exact hT _ p hp
        · cases hp
    · refine ih _ _ (fun j y hj => ?_) (fun k q hq => ?_) p hp
      · have := hx (j + 1) y hj
        rw [show i + 1 + (j : Int) = i + ((j + 1 : Nat) : Int) by omega]
        exact this
      · rw [getT_step] at hq
        split at hq
        · unfold stepO at hq
          split at hq
          · split at hq
            · cases hq
            · exact hT k q hq
          · split at hq
            · exact hT k q hq
            · split at hq
              · rcases List.mem_append.1 hq with hq | hq
                · exact hT k q hq
                · rw [List.mem_singleton] at hq; subst hq; exact h0
              · split at hq
                · cases hq
                · cases hq
        · exact hT k q hq
theorem puts_at (l : List S47) : ∀ p ∈ putsV l, ∃ j : Nat, p.1 = (j : Int) ∧ l[j]? = some p.2 :=
  goP_pairs l [] 0 (fun j x hj => ⟨j, by simp, hj⟩) fun k p hp => by cases hp
theorem puts_len (l : List S47) : (putsV l).length ≤ l.length * l.length := by
  have key : ∀ m, m ≤ l.length → (putsV (l.take m)).length ≤ m * l.length := by
    intro m
    induction m with
    | zero => intro _; simp [putsV, goP]
    | succ m ih =>
      intro hm
      have hx := List.getElem?_eq_getElem (l := l) (i := m) (by omega)
      rw [puts_take l hx, List.length_append, Nat.add_mul, Nat.one_mul]
      have h1 := ih (by omega)
      have h2 : (putsAt (goT [] 0 (l.take m)) (m : Int) l[m]).length ≤ l.length := by
        unfold putsAt
        split
        · simp; omega
        · split
          · have h3 := (OInv.of (l.take m) l[m].f1).op
            rw [ofO_s, through_split, List.length_take] at h3
            have h4 : (getT (goT [] 0 (l.take m)) l[m].f1).o.length ≤ min m l.length := Nat.le_trans (Nat.le_add_right _ _) h3
            omega
          · simp
      omega
  have := key l.length (Nat.le_refl _)
  rwa [List.take_length] at this
end Go.Proofs.Ytmnglonjekegcaa.Vw
namespace Go.Proofs.Ytmnglonjekegcaa.Vw
open Go Go.RowKit Go.Maps Go.Proofs.Ytmnglonjekegcaa.Mk Go.Proofs.Ytmnglonjekegcaa.Rp Go.Proofs.YtmnglonjekegcaaW.PrintWords Go.Proofs.YtmnglonjekegcaaW.PrintLast Go.Proofs.YtmnglonjekegcaaW.PrintMore Go.Proofs.Ytmnglonjekegcaa.Rw Go.Proofs.Ytmnglonjekegcaa.Ow Go.Proofs.Ytmnglonjekegcaa.Mono
set_option linter.unusedVariables false
set_option linter.unusedSimpArgs false
set_option maxRecDepth 100000
def Leaf (U : TypeId) : Prop := U = 3 ∨ U = 45 ∨ U = 4
instance (U : TypeId) : Decidable (Leaf U) := by unfold Leaf; infer_instance
/-- Rows of numbers, records and booleans stay. -/
def KeepN (T : TypeId) (w W2 : World) : Prop := ∀ (k : Nat) (U : TypeId) (cs : Array Value), Leaf U → w.heap[k]? = some (.cells cs U (0, 0)) → W2.heap[k]? = some (.cells cs U (0, 0))
theorem KeepN.below {T : TypeId} {w w' : World} (h : Below w.heap.size w w') : KeepN T w w' := fun k U cs _ hk => blk_below hk h
theorem KeepN.trans {T : TypeId} {a b c : World} (h : KeepN T a b) (k : KeepN T b c) : KeepN T a c := fun i U cs hT hi => k i U cs hT (h i U cs hT hi)
theorem KeepN.own {T U : TypeId} {a b : World} (h : KeepN T a b) (hU : Leaf U) {base sz n : Nat} {v : Value} {xs : List Value} (ho : a.ownsRow base U sz v n xs) : b.ownsRow base U sz v n xs := own_kept ho fun k e => by
  obtain ⟨cur, hc⟩ := own_block ho e
  rw [h _ _ _ hU hc, hc]
theorem KeepN.set {T : TypeId} {w : World} {g : Nat} {cs : Array Value} {U : TypeId} (hg : w.heap[g]? = some (.cells cs U (0, 0))) (hU : ¬ Leaf U) (i : Nat) (v : Value) : KeepN T w (w.setCell ⟨g, i, none⟩ v) := fun k U2 ds hU2 hk => (Below.heap_setCell _ _ _ k (blk_types hk hg (fun e => hU (by rw [← e]; exact hU2)))).trans hk
theorem own_R {w : World} {base : Nat} {ok : Nat → Prop} {v : Value} {xs : List Int} (h : Kd.R (Kd.int .i64) 3 w base ok v xs) : w.ownsRow base 3 1 v xs.length (cellsI xs) := by
  obtain ⟨_, inner, ho, hr⟩ := h
  have e : inner = cellsI xs := by
    refine List.ext_getElem? fun j => ?_
    have hl : inner.length = xs.length * 1 := hr.1
    by_cases hj : j < xs.length
    · have h1 : (inner.drop (j * 1)).take 1 = [.int .i64 xs[j]] := hr.2 j xs[j] (List.getElem?_eq_getElem hj)
      have h2 := congrArg (fun l => l[0]?) h1
      simp only [Nat.mul_one] at h2
      rw [List.getElem?_take_of_lt (by omega), List.getElem?_drop, Nat.add_zero] at h2
      rw [h2]
      unfold cellsI
      rw [List.getElem?_map, List.getElem?_eq_getElem hj]
      rfl
    · rw [List.getElem?_eq_none (by omega), List.getElem?_eq_none (by rw [cellsI_len]; omega)]
  rw [← e]
  exact ho
def RT {α : Type} (d : Kd α) (T : TypeId) (w0 : World) (base : Nat) (w : World) (v : Value) (xs : List α) : Prop := ∃ cs, w.ownsRow base T d.sz v xs.length cs ∧ ∀ W2, KeepN T w W2 → Below w0.heap.size w0 W2 → Reps (d.K W2) d.sz xs cs
section
variable {α : Type} {d : Kd α} {T : TypeId} {w0 w : World} {base : Nat} {v : Value} {xs : List α}
theorem RT.nil (d : Kd α) (T : TypeId) (w0 w : World) (base : Nat) : RT d T w0 base w (.slice none 0 0) [] := ⟨[], World.ownsRow_nil _ _ _ _, fun _ _ _ => Reps.none _ _⟩
theorem RT.below (h : RT d T w0 base w v xs) {w' : World} (hb : Below w.heap.size w w') : RT d T w0 base w' v xs := by
  obtain ⟨cs, h1, h2⟩ := h
  exact ⟨cs, own_below h1 hb, fun W2 hk hB => h2 W2 ((KeepN.below hb).trans hk) hB⟩
/-- Blocks of other types are turned, but no rows that the elements hold: those are told to stay. -/
theorem RT.keep (h : RT d T w0 base w v xs) {w' : World} (ho : ∀ (k : Nat) (cs : Array Value), w.heap[k]? = some (.cells cs T (0, 0)) → w'.heap[k]? = some (.cells cs T (0, 0))) (hk : KeepN T w w') : RT d T w0 base w' v xs := by
  obtain ⟨cs, h1, h2⟩ := h
  exact ⟨cs, own_kept h1 fun k e => by obtain ⟨cur, hc⟩ := own_block h1 e; rw [ho _ _ hc, hc], fun W2 hk2 hB => h2 W2 (hk.trans hk2) hB⟩
theorem RT.C (h : RT d T w0 base w v xs) (hB : Below w0.heap.size w0 w) : ∃ A c, v = .slice A xs.length c ∧ xs.length ≤ c ∧ Kd.C d w A xs.length xs := by
  obtain ⟨cs, h1, h2⟩ := h
  exact C_own (d := d) h1 (h2 w (fun _ _ _ _ h => h) hB) rfl
theorem RT.app1 (h : RT d T w0 base w v xs) (hbs : base ≤ w.heap.size) {tl : TypeId} {bytes : Nat} (I : TInfo tl T d.sz bytes) {W1 : World} (h1 : Below w.heap.size w W1) (x : α) (news : List Value) {gl : Nat} (hgl : W1.heap[gl]? = some (.cells news.toArray T (0, 0))) (hl : news.length = d.sz) (hone : ∀ u ∈ news, u.oneCell' = true)
    (hK : ∀ W2, KeepN T W1 W2 → Below w0.heap.size w0 W2 → d.K W2 x news) (hn : xs.length ≤ 1000000) (hby : bytes ≤ 1000) (ty : TypeId) (hty : ty = tl) (hT : ¬ Leaf T := by decide) :
    ∃ v' w', (Builtin.append_ #[tl, tl] ty #[v, .slice (some ⟨gl, 0, none⟩) 1 1]).run Try.prog W1 = .ok v' w' ∧ RT d T w0 base w' v' (xs ++ [x]) ∧ (∀ (k : Nat) (U : TypeId) (cs : Array Value), U ≠ T → W1.heap[k]? = some (.cells cs U (0, 0)) → w'.heap[k]? = some (.cells cs U (0, 0))) ∧ base ≤ w'.heap.size ∧ W1.heap.size ≤ w'.heap.size ∧ (∀ (b : Nat) (wx : World), b ≤ base → Below b wx w → Below b wx w') ∧ (∃ A' c', v' = .slice A' (xs.length + 1) c') := by
  obtain ⟨cs, ho, hr⟩ := h
  have hb1 : base ≤ W1.heap.size := Nat.le_trans hbs h1.size
  obtain ⟨v', w', hrun, h2, h3, h4, h5⟩ := app_one I ty hty W1 base xs.length v cs (own_below ho h1) gl 1 news hgl hl hone hn hby hb1
  have hku : ∀ (k : Nat) (U : TypeId) (cs : Array Value), U ≠ T → W1.heap[k]? = some (.cells cs U (0, 0)) → w'.heap[k]? = some (.cells cs U (0, 0)) := fun k U cu hU hc => blk_grown hc h3 fun hh => by
    obtain ⟨cur, hc2⟩ := own_block (own_below ho h1) hh
    exact blk_types hc hc2 hU rfl
  have hk : KeepN T W1 w' := fun k U cu hU hc => hku k U cu (fun e => hT (by rw [← e]; exact hU)) hc
  refine ⟨v', w', hrun, ⟨cs ++ news, by rw [List.length_append]; exact h2, fun W2 hk2 hB => ?_⟩, hku, Nat.le_trans hb1 h3.size, h3.size, fun b wx hb hx => ?_, h5⟩
  · exact (hr W2 ((KeepN.below h1).trans (hk.trans hk2)) hB).snoc (hK W2 (hk.trans hk2) hB) hl
  · exact (below_on hx (Nat.le_trans hb hbs) h1).grown h3 (Nat.le_trans hb hb1) fun k hk => Nat.le_trans hb (Ow.own_lt ho k hk).1
end
end Go.Proofs.Ytmnglonjekegcaa.Vw
namespace Go.Proofs.Ytmnglonjekegcaa.Vw
open Go Go.RowKit Go.Maps Go.Proofs.Ytmnglonjekegcaa.Mk Go.Proofs.Ytmnglonjekegcaa.Rp Go.Proofs.YtmnglonjekegcaaW.PrintWords Go.Proofs.YtmnglonjekegcaaW.PrintLast Go.Proofs.YtmnglonjekegcaaW.PrintMore Go.Proofs.Ytmnglonjekegcaa.Rw Go.Proofs.Ytmnglonjekegcaa.Ow Go.Proofs.Ytmnglonjekegcaa.Mono
set_option linter.unusedVariables false
set_option linter.unusedSimpArgs false
set_option maxRecDepth 100000
theorem TIO : TInfo 80 70 9 152 := tinfo_of Try.underlying80 info70 rfl (by omega)
def valS (l : List S47) (y : Int) : S70 := ⟨⟨y, (ofO l y).s.t.f1, (ofO l y).s.t.f2, (ofO l y).s.t.f3, (ofO l y).s.t.f4, ((opens (ofO l y).s).length : Int)⟩, opens (ofO l y).s, (ofO l y).d, (ofO l y).a⟩
/-- A row of whole numbers of one's own. -/
def IR (base : Nat) (w : World) (v : Value) (ps : List Int) : Prop := w.ownsRow base 3 1 v ps.length (cellsI ps) ∧ base ≤ w.heap.size
theorem IR.below {base : Nat} {w w' : World} {v : Value} {ps : List Int} (h : IR base w v ps) (hb : Below w.heap.size w w') : IR base w' v ps := ⟨own_below h.1 hb, Nat.le_trans h.2 hb.size⟩
theorem IR.app {base : Nat} {w W1 : World} {v : Value} {ps : List Int} (h : IR base w v ps) (h1 : Below w.heap.size w W1) (x : Int) {gl : Nat} (hgl : W1.heap[gl]? = some (.cells #[.int .i64 x] 3 (0, 0))) (hn : ps.length ≤ 1000000) (ty : TypeId) (hty : ty = 39) :
    ∃ v' w', (Builtin.append_ #[39, 39] ty #[v, .slice (some ⟨gl, 0, none⟩) 1 1]).run Try.prog W1 = .ok v' w' ∧ IR base w' v' (ps ++ [x]) ∧ (∀ (b : Nat) (wx : World), b ≤ base → Below b wx w → Below b wx w') := by
  obtain ⟨v', w', hrun, h2, h3, _, _⟩ := app_one TII ty hty W1 base ps.length v (cellsI ps) (own_below h.1 h1) gl 1 [.int .i64 x] hgl rfl (by simp [Value.oneCell']) hn (by decide) (Nat.le_trans h.2 h1.size)
  refine ⟨v', w', hrun, ⟨?_, Nat.le_trans (Nat.le_trans h.2 h1.size) h3.size⟩, fun b wx hb hx => (below_on hx (Nat.le_trans hb h.2) h1).grown h3 (Nat.le_trans hb (Nat.le_trans h.2 h1.size)) fun k hk => Nat.le_trans hb (Ow.own_lt h.1 k hk).1⟩
  rw [List.length_append, cellsI_append]
  exact h2
theorem IR.C {base : Nat} {w : World} {v : Value} {ps : List Int} (h : IR base w v ps) : ∃ A c, v = .slice A ps.length c ∧ ps.length ≤ c ∧ Kd.C (Kd.int .i64) w A ps.length ps := intC h.1 rfl
def PutP (w : World) (l : List S47) (e : Ending) (w' : World) : Prop := ∃ A c, e = .returned (.slice A (placesV l).length c) ∧ Below w.heap.size w w' ∧ (placesV l).length ≤ c ∧ w'.ownsRow w.heap.size 3 1 (.slice A (placesV l).length c) (placesV l).length (cellsI (placesV l))
theorem rd_get {l : List Int} {i : Nat} (h : i < l.length) : l.take (i + 1) = l.take i ++ [rd l (i : Int)] := by
  rw [List.take_succ_eq_append_getElem h]
  unfold rd
  rw [Int.toNat_natCast, List.getD_eq_getElem?_getD, List.getElem?_eq_getElem h]
  rfl
set_option maxHeartbeats 4000000 in
theorem put_ok_ (A : Option Addr) (n c : Nat) (l : List S47) (w : World) (hC : Kd.C k47 w A n l) (hn : n ≤ 300) (hnc : n ≤ c) : Calls Try.prog 26 #[.slice A n c] w (PutP w l) := by
  have HC := Aside0.mk hC
  have HLn := Aside0.mk hC.1
  clear hC
  go_enter Try.func26, Try.ntmps26
  go_wp2_with fail
  refine (names_ok A n c l w HC.out hn hnc).mono ?_
  rintro e_ w1 ⟨v, rfl, hR_, hb_⟩
  obtain ⟨Av, cv, rfl⟩ := Kd.R_slice hR_
  have HN := Aside0.mk (Kd.R_reads' hR_).2.2
  have HB1 := Aside0.mk hb_
  obtain ⟨nm, HNM⟩ : ∃ nm, Aside0 (namesV l = nm) := ⟨_, ⟨rfl⟩⟩
  have HNL : Aside0 (nm.length ≤ 300) := ⟨by rw [← HNM.out]; have := namesV_len l; have := HLn.out; omega⟩
  rw [HNM.out] at HN ⊢
  obtain ⟨q, HQ⟩ : ∃ q, Aside0 (nm.length = q) := ⟨_, ⟨rfl⟩⟩
  rw [HQ.out] at HN HNL ⊢
  have hq3 := HNL.out
  clear hR_ hb_
  go_wp2_with fail
  go_loopw [3, 5] (fun va vb wr => ∃ (i : Nat) (At : Option Addr) (ct : Nat), i ≤ q ∧ va = .slice At i ct ∧ vb = .int .i64 (i : Int) ∧ Aside0 (RT k70 70 w w1.heap.size wr (.slice At i ct) ((nm.take i).map (valS l))) ∧ Aside0 (Below w1.heap.size w1 wr)) (fun _ vb _ => q - (intOf vb).toNat)
  case atStart => exact ⟨0, none, 0, Nat.zero_le _, rfl, rfl, ⟨by rw [List.take_zero]; exact RT.nil _ _ _ _ _⟩, ⟨Below.refl _ _⟩⟩
  case round =>
    obtain ⟨i, At, ct, hi, rfl, rfl, HT, HB⟩ := hrel
    by_cases hlt : i < q
    · have h1 : decide ((i : Int) < (q : Int)) = true := by simp; omega
      have h1b : decide (i < q) = true := by simp; omega
      have hqi : (i : Int) < (q : Int) := by omega
      have HTK : Aside0 (nm.take (i + 1) = nm.take i ++ [rd nm (i : Int)]) := ⟨rd_get (by rw [HQ.out]; exact hlt)⟩
      obtain ⟨y, HY⟩ : ∃ y, Aside0 (rd nm (i : Int) = y) := ⟨_, ⟨rfl⟩⟩
      rw [HY.out] at HTK
      obtain ⟨ad, rfl, y_⟩ := Kd.at_int HN.out (i : Int) (Int.natCast_nonneg _) hqi
      rw [HY.out, Int.toNat_natCast] at y_
      replace y_ := pw_cell_below HB.out y_
      have HTL : Aside0 (((nm.take i).map (valS l)).length = i) := ⟨by rw [List.length_map, List.length_take, HQ.out]; omega⟩
      go_wp2_with fail
      refine (of_ok A n c l y w wr (below_step HB1.out HB.out) HC.out hn hnc).mono ?_
      rintro e_ w2 ⟨V, A3, c3, rfl, hb_, hW_, hl3_, hc3_⟩
      have hval : valS l y = ⟨⟨y, (ofO l y).s.t.f1, (ofO l y).s.t.f2, (ofO l y).s.t.f3, (ofO l y).s.t.f4, ((opens (ofO l y).s).length : Int)⟩, opens (ofO l y).s, (ofO l y).d, (ofO l y).a⟩ := rfl
      obtain ⟨o, HO⟩ : ∃ o, Aside0 (ofO l y = o) := ⟨_, ⟨rfl⟩⟩
      rw [HO.out] at hW_ hl3_ hc3_ hval ⊢
      obtain ⟨B0, d0, hv0, l0_, _⟩ := intC (hW_.own 0) rfl
      change V 0 = .slice B0 o.s.t.f4.length d0 at hv0
      obtain ⟨B1, d1, hv1, l1_, _⟩ := intC (hW_.own 1) rfl
      change V 1 = .slice B1 (opens o.s).length d1 at hv1
      obtain ⟨B2, d2, hv2, l2_, _⟩ := intC (hW_.own 2) rfl
      change V 2 = .slice B2 o.d.length d2 at hv2
      obtain ⟨B3, d3, hv3, l3_, _⟩ := intC (hW_.own 3) rfl
      change V 3 = .slice B3 o.a.length d3 at hv3
      have hK : ∀ W2, KeepN 70 w2 W2 → Below w.heap.size w W2 → k70.K W2 (⟨⟨y, o.s.t.f1, o.s.t.f2, o.s.t.f3, o.s.t.f4, ((opens o.s).length : Int)⟩, opens o.s, o.d, o.a⟩ : S70) [.int .i64 y, .int .i64 o.s.t.f1, .int .i64 o.s.t.f2, .slice A3 o.s.t.f3.length c3, .slice B0 o.s.t.f4.length d0, .int .i64 ((opens o.s).length : Int), .slice B1 (opens o.s).length d1, .slice B2 o.d.length d2, .slice B3 o.a.length d3] := fun W2 hk hB2 => by
        have g : ∀ j (B : Option Addr) (d : Nat) (f : List Int), V j = .slice B f.length d → ofF o j = f → Kd.C (Kd.int .i64) W2 B f.length f := fun j B d f hv hf => by
          obtain ⟨B', d', e', _, hC'⟩ := intC (hk.own (by decide) (hW_.own j)) rfl
          rw [hf] at e' hC'
          rw [hv] at e'
          injection e' with e' _ _
          rw [e']
          exact hC'
        exact k70_mk W2 (⟨⟨y, o.s.t.f1, o.s.t.f2, o.s.t.f3, o.s.t.f4, ((opens o.s).length : Int)⟩, opens o.s, o.d, o.a⟩ : S70) hl3_ (Kd.C_below hc3_ hB2) l0_ (g 0 _ _ _ hv0 rfl) l1_ (g 1 _ _ _ hv1 rfl) l2_ (g 2 _ _ _ hv2 rfl) l3_ (g 3 _ _ _ hv3 rfl)
      rw [hv0, hv1, hv2, hv3]
      have HKK := Aside0.mk hK
      have HVL := Aside0.mk hval
      replace HT := Aside0.mk (HT.out.below hb_)
      have HB0 := HB
      replace HB := Aside0.mk (below_step HB.out hb_)
      clear hb_ hW_ hl3_ hc3_ hv0 hv1 hv2 hv3 l0_ l1_ l2_ l3_ y_ hK hval HB0
      go_upto_region 7 with fail
      have HX := Aside0.mk (heap_alloc_new w2 (.cells #[.int .i64 y, .int .i64 o.s.t.f1, .int .i64 o.s.t.f2, .slice A3 o.s.t.f3.length c3, .slice B0 o.s.t.f4.length d0, .int .i64 ((opens o.s).length : Int), .slice B1 (opens o.s).length d1, .slice B2 o.d.length d2, .slice B3 o.a.length d3] 70))
      have hb_ := below_alloc (Below.refl w2.heap.size w2) (.cells #[.int .i64 y, .int .i64 o.s.t.f1, .int .i64 o.s.t.f2, .slice A3 o.s.t.f3.length c3, .slice B0 o.s.t.f4.length d0, .int .i64 ((opens o.s).length : Int), .slice B1 (opens o.s).length d1, .slice B2 o.d.length d2, .slice B3 o.a.length d3] 70)
      generalize w2.alloc (.cells #[.int .i64 y, .int .i64 o.s.t.f1, .int .i64 o.s.t.f2, .slice A3 o.s.t.f3.length c3, .slice B0 o.s.t.f4.length d0, .int .i64 ((opens o.s).length : Int), .slice B1 (opens o.s).length d1, .slice B2 o.d.length d2, .slice B3 o.a.length d3] 70) = w3 at HX hb_ ⊢
      obtain ⟨gx, HGX⟩ : ∃ g, Aside0 (w2.heap.size = g) := ⟨_, ⟨rfl⟩⟩
      rw [HGX.out] at HX ⊢
      replace HT := Aside0.mk (HT.out.below hb_)
      have HBx := Aside0.mk hb_
      replace HB := Aside0.mk (below_step HB.out hb_)
      clear hb_
      have x0_ := (blk_cell HX.out 0).trans (rfl : _ = some (.int .i64 y : Value))
      have x1_ := (blk_cell HX.out 1).trans (rfl : _ = some (.int .i64 o.s.t.f1 : Value))
      have x2_ := (blk_cell HX.out 2).trans (rfl : _ = some (.int .i64 o.s.t.f2 : Value))
      have x3_ := (blk_cell HX.out 3).trans (rfl : _ = some (.slice A3 o.s.t.f3.length c3 : Value))
      have x4_ := (blk_cell HX.out 4).trans (rfl : _ = some (.slice B0 o.s.t.f4.length d0 : Value))
      have x5_ := (blk_cell HX.out 5).trans (rfl : _ = some (.int .i64 ((opens o.s).length : Int) : Value))
      have x6_ := (blk_cell HX.out 6).trans (rfl : _ = some (.slice B1 (opens o.s).length d1 : Value))
      have x7_ := (blk_cell HX.out 7).trans (rfl : _ = some (.slice B2 o.d.length d2 : Value))
      have x8_ := (blk_cell HX.out 8).trans (rfl : _ = some (.slice B3 o.a.length d3 : Value))
      have hal_ := below_alloc (Below.refl w3.heap.size w3) (.cells #[.int .i64 y, .int .i64 o.s.t.f1, .int .i64 o.s.t.f2, .slice A3 o.s.t.f3.length c3, .slice B0 o.s.t.f4.length d0, .int .i64 ((opens o.s).length : Int), .slice B1 (opens o.s).length d1, .slice B2 o.d.length d2, .slice B3 o.a.length d3] 70)
      obtain ⟨v_, w4, hr_, ht_, _, _, _, hbb_, A6, c6, rfl⟩ := HT.out.app1 HB.out.size TIO hal_ (valS l y) [.int .i64 y, .int .i64 o.s.t.f1, .int .i64 o.s.t.f2, .slice A3 o.s.t.f3.length c3, .slice B0 o.s.t.f4.length d0, .int .i64 ((opens o.s).length : Int), .slice B1 (opens o.s).length d1, .slice B2 o.d.length d2, .slice B3 o.a.length d3] (heap_alloc_new w3 (.cells #[.int .i64 y, .int .i64 o.s.t.f1, .int .i64 o.s.t.f2, .slice A3 o.s.t.f3.length c3, .slice B0 o.s.t.f4.length d0, .int .i64 ((opens o.s).length : Int), .slice B1 (opens o.s).length d1, .slice B2 o.d.length d2, .slice B3 o.a.length d3] 70)) rfl (by simp [Value.oneCell']) (fun W2 hk hB2 => by rw [HVL.out]; exact HKK.out W2 ((KeepN.below HBx.out).trans ((KeepN.below hal_).trans hk)) hB2) (by rw [HTL.out]; omega) (by decide) 80 rfl
      rw [HTL.out] at hr_ ht_
      have HR := Aside0.mk hr_
      have HT2 : Aside0 (RT k70 70 w w1.heap.size w4 (.slice A6 (i + 1) c6) ((nm.take (i + 1)).map (valS l))) := ⟨by rw [HTK.out, List.map_append]; exact ht_⟩
      have HB4 := Aside0.mk (hbb_ _ w1 (Nat.le_refl _) HB.out)
      clear hal_ hr_ ht_ hbb_
      go_wp2_with (at_builtin; refine wpList_append_eq _ rfl (.tmp 29) (.tmp 31) 80 80 rfl _ _ rfl rfl HR.out ?_)
      go_roundw
      case rel => exact ⟨i + 1, A6, c6, by omega, rfl, by go_num, HT2, HB4⟩
      case measure => simp [intOf]; omega
    · obtain rfl : q = i := by omega
      have h1b : decide (q < q) = false := by simp
      rw [List.take_of_length_le (by rw [HQ.out]; exact Nat.le_refl _)] at HT
      obtain ⟨Ax, cx, ex, hlx, hcx⟩ := HT.out.C (below_step HB1.out HB.out)
      have hxl : (nm.map (valS l)).length = q := by rw [List.length_map, HQ.out]
      rw [hxl] at ex hlx hcx
      obtain ⟨rfl, rfl⟩ : At = Ax ∧ ct = cx := by injection ex with a _ b; exact ⟨a, b⟩
      have HTC := Aside0.mk (And.intro hlx hcx)
      replace HB := Aside0.mk (below_step HB1.out HB.out)
      clear ex hlx hcx hxl HT HB1 HN
      rename World => w5
      have HNMI : Aside0 (∀ kk, kk < q → ∃ y, nm[kk]? = some y ∧ (nm.map (valS l))[kk]? = some (valS l y)) := ⟨fun kk hk => by
        obtain ⟨y, hy⟩ : ∃ y, nm[kk]? = some y := ⟨_, List.getElem?_eq_getElem (by rw [HQ.out]; exact hk)⟩
        exact ⟨y, hy, by rw [List.getElem?_map, hy]; rfl⟩⟩
      obtain ⟨ts, HTS⟩ : ∃ ts, Aside0 (nm.map (valS l) = ts) := ⟨_, ⟨rfl⟩⟩
      rw [HTS.out] at HTC HNMI
      have HIR : Aside0 (IR w5.heap.size w5 (.slice none 0 0) []) := ⟨World.ownsRow_nil _ _ _ _, Nat.le_refl _⟩
      go_wp2_with fail
      go_loopw [8, 9] (fun va vb wr => ∃ (i : Nat) (v8 : Value) (ps : List Int), i ≤ n ∧ v8 = va ∧ vb = .int .i64 (i : Int) ∧ Aside0 (placesV (l.take i) = ps) ∧ Aside0 (IR w5.heap.size wr v8 ps) ∧ Aside0 (Below w5.heap.size w5 wr)) (fun _ vb _ => n - (intOf vb).toNat)
      case atStart => exact ⟨0, _, _, Nat.zero_le _, rfl, rfl, ⟨rfl⟩, HIR, ⟨Below.refl _ _⟩⟩
      case round =>
        clear HIR
        obtain ⟨i, v8, ps, hi, rfl, rfl, HPS, HI, HB2⟩ := hrel
        by_cases hlt : i < n
        · have h1 : decide ((i : Int) < (n : Int)) = true := by simp; omega
          have h1b : decide (i < n) = true := by simp; omega
          obtain ⟨x, hx⟩ : ∃ x, l[i]? = some x := ⟨_, List.getElem?_eq_getElem (by rw [HLn.out]; exact hlt)⟩
          obtain ⟨ad, A9, c9, A10, c10, rfl, hcells⟩ := at_T47 HC.out (i : Int) (Int.natCast_nonneg _) (Int.ofNat_lt.2 hlt)
          rw [rd_eq hx] at hcells
          obtain ⟨q1, HQ1⟩ : ∃ q1, Aside0 ((mayE x && (x.f0 == 1)) = q1) := ⟨_, ⟨rfl⟩⟩
          have HPN : Aside0 (placesV (l.take (i + 1)) = (ps ++ if q1 = true then [(i : Int)] else []) ++ nm.flatMap fun k => doneAt (ofO l k) (i : Int)) := ⟨by
            rw [places_take l hx, HPS.out]
            unfold putPl
            rw [HNM.out, ← HQ1.out, List.append_assoc]
            simp only [Bool.and_eq_true, beq_iff_eq]⟩
          have HPL : Aside0 ((placesV (l.take (i + 1))).length ≤ 100000) := ⟨by
            unfold placesV
            rw [List.length_map]
            refine Nat.le_trans (puts_len _) ?_
            have h : (l.take (i + 1)).length ≤ 300 := by rw [List.length_take]; have := HLn.out; omega
            exact Nat.le_trans (Nat.mul_le_mul h h) (by omega)⟩
          clear hx
          obtain ⟨x0_, x1_, x2_, x3_, x4_, x5_, x6_, x7_, x8_, x9_, x10_, l9, k9, l10, k10⟩ := hcells
          rw [Int.toNat_natCast] at x0_ x1_ x2_ x3_ x4_ x5_ x6_ x7_ x8_ x9_ x10_
          have HX := Aside0.mk x0_
          replace x0_ := pw_cell_below (below_step HB.out HB2.out) x0_
          replace x1_ := pw_cell_below (below_step HB.out HB2.out) x1_
          replace x2_ := pw_cell_below (below_step HB.out HB2.out) x2_
          replace x3_ := pw_cell_below (below_step HB.out HB2.out) x3_
          replace x4_ := pw_cell_below (below_step HB.out HB2.out) x4_
          replace x5_ := pw_cell_below (below_step HB.out HB2.out) x5_
          replace x6_ := pw_cell_below (below_step HB.out HB2.out) x6_
          replace x7_ := pw_cell_below (below_step HB.out HB2.out) x7_
          replace x8_ := pw_cell_below (below_step HB.out HB2.out) x8_
          replace x9_ := pw_cell_below (below_step HB.out HB2.out) x9_
          replace x10_ := pw_cell_below (below_step HB.out HB2.out) x10_
          have HK := Aside0.mk (And.intro (And.intro l9 k9) (And.intro l10 k10))
          clear l9 k9 l10 k10
          go_upto_region 12 with fail
          go_cut [51] (fun vq wc => vq = .bool q1 ∧ Aside0 (Below wr.heap.size wr wc))
          case first =>
            go_wp2_with fail
            refine (refMay_ok x A9 A10 c9 c10 wr (Kd.C_below HK.out.1.2 (below_step HB.out HB2.out)) HK.out.1.1 (Kd.C_below HK.out.2.2 (below_step HB.out HB2.out)) HK.out.2.1).mono ?_
            rintro e_ wm ⟨rfl, hb_⟩
            obtain ⟨mm, HM⟩ : ∃ m, Aside0 (mayE x = m) := ⟨_, ⟨rfl⟩⟩
            rw [HM.out]
            have HBM := Aside0.mk hb_
            clear x0_ x1_ x2_ x3_ x4_ x5_ x6_ x7_ x8_ x9_ x10_
            have x0_ := pw_cell_below (below_step HB.out (below_on HB2.out HB2.out.size hb_)) HX.out
            clear hb_
            rw [HM.out] at HQ1
            cases mm with
            | false =>
              go_wp2_with fail
              go_meet
              case rel => exact ⟨by rw [← HQ1.out]; rfl, HBM⟩
            | true =>
              obtain ⟨b5, hb5⟩ : ∃ b, (x.f0 == 1) = b := ⟨_, rfl⟩
              rw [hb5] at HQ1
              go_wp2_with fail
              go_meet
              case rel => exact ⟨by rw [← HQ1.out]; rfl, HBM⟩
          case rest =>
          obtain ⟨rfl, HBM⟩ := hcut
          rename World => wy
          clear x0_ x1_ x2_ x3_ x4_ x5_ x6_ x7_ x8_ x9_ x10_
          replace HI := Aside0.mk (HI.out.below HBM.out)
          replace HB2 := Aside0.mk (below_on HB2.out HB2.out.size HBM.out)
          clear HBM
          go_upto_if 51 with (fail)
          go_cut [8] (fun va wc => ∃ v8 : Value, v8 = va ∧ Aside0 (IR w5.heap.size wc v8 (ps ++ if q1 = true then [(i : Int)] else [])) ∧ Aside0 (Below w5.heap.size w5 wc))
          case first =>
            cases q1 with
            | false =>
              go_wp2_with fail
              go_meet
              case rel => exact ⟨_, rfl, ⟨by rw [if_neg (by simp), List.append_nil]; exact HI.out⟩, HB2⟩
            | true =>
              have hal_ := below_alloc (Below.refl wy.heap.size wy) (.cells #[.int .i64 (i : Int)] 3)
              obtain ⟨v9, w6, hr_, hi_, hbb_⟩ := HI.out.app hal_ (i : Int) (heap_alloc_new wy _) (by have := HPL.out; rw [HPN.out, List.length_append, List.length_append] at this; omega) 39 rfl
              have HR := Aside0.mk hr_
              have HI2 := Aside0.mk hi_
              have HB3 := Aside0.mk (hbb_ _ w5 (Nat.le_refl _) HB2.out)
              clear hal_ hr_ hi_ hbb_
              go_wp2_with (at_builtin; refine wpList_append_eq _ rfl (.tmp 52) (.tmp 54) 39 39 rfl _ _ rfl rfl HR.out ?_)
              go_meet
              case rel => exact ⟨_, rfl, HI2, HB3⟩
          case rest =>
          obtain ⟨v8, rfl, HI, HB2⟩ := hcut
          rename World => wz
          obtain ⟨p0, HP0⟩ : ∃ p0, Aside0 ((ps ++ if q1 = true then [(i : Int)] else []) = p0) := ⟨_, ⟨rfl⟩⟩
          rw [HP0.out] at HI HPN
          rw [HPN.out] at HPL
          go_wp2_with fail
          go_loopw [8, 10] (fun va vb wk => ∃ (kk : Nat) (v8 : Value), kk ≤ q ∧ v8 = va ∧ vb = .int .i64 (kk : Int) ∧ Aside0 (IR w5.heap.size wk v8 (p0 ++ (nm.take kk).flatMap fun k => doneAt (ofO l k) (i : Int))) ∧ Aside0 (Below w5.heap.size w5 wk)) (fun _ vb _ => q - (intOf vb).toNat)
          case atStart => exact ⟨0, _, Nat.zero_le _, rfl, rfl, ⟨by rw [List.take_zero, List.flatMap_nil, List.append_nil]; exact HI.out⟩, HB2⟩
          case round =>
            clear HI HB2
            obtain ⟨kk, v8, hkk, rfl, rfl, HI, HB2⟩ := hrel
            rename World => wk
            by_cases hkl : kk < q
            · have k1_ : decide ((kk : Int) < (q : Int)) = true := by simp; omega
              have k1b_ : decide (kk < q) = true := by simp; omega
              have hkq : (kk : Int) < (q : Int) := by omega
              obtain ⟨y, hy, hty⟩ := HNMI.out kk hkl
              have HTK : Aside0 (nm.take (kk + 1) = nm.take kk ++ [y]) := ⟨by obtain ⟨a, e⟩ := List.getElem?_eq_some_iff.1 hy; rw [List.take_succ_eq_append_getElem a, e]⟩
              have HRD : Aside0 (rd_T70 ts (kk : Int) = valS l y) := ⟨by unfold rd_T70; rw [Int.toNat_natCast, List.getD_eq_getElem?_getD, hty]; rfl⟩
              have hov := OInv.of l y
              obtain ⟨o, HO⟩ : ∃ o, Aside0 (ofO l y = o) := ⟨_, ⟨rfl⟩⟩
              have HVD : Aside0 ((valS l y).f2 = o.d ∧ (valS l y).f3 = o.a) := ⟨by rw [← HO.out]; exact ⟨rfl, rfl⟩⟩
              rw [HO.out] at hov
              obtain ⟨dl, HDL⟩ : ∃ dl, Aside0 (o.d.length = dl) := ⟨_, ⟨rfl⟩⟩
              have HAL : Aside0 (o.a.length = dl) := ⟨by rw [hov.da]; exact HDL.out⟩
              have hdl3 : dl ≤ 300 := by have := hov.op; rw [HDL.out, HLn.out] at this; omega
              clear hy hty hov
              obtain ⟨p1, HP1⟩ : ∃ p1, Aside0 (p0 ++ ((nm.take kk).flatMap fun k => doneAt (ofO l k) (i : Int)) = p1) := ⟨_, ⟨rfl⟩⟩
              rw [HP1.out] at HI
              have HP1L : Aside0 (p1.length + (doneAt o (i : Int)).length ≤ 100000) := ⟨by
                have h := HPL.out
                rw [← List.take_append_drop (kk + 1) nm, HTK.out, List.flatMap_append, List.flatMap_append, List.length_append, List.length_append, List.length_append] at h
                rw [← HP1.out, List.length_append]
                simp only [List.flatMap_cons, List.flatMap_nil, List.append_nil, HO.out] at h
                omega⟩
              have HZ : Aside0 ((o.d.zip o.a).length = dl) := ⟨by rw [List.length_zip, HDL.out, HAL.out, Nat.min_self]⟩
              go_upto_region 18 with fail
              go_wp2_with fail
              go_loopw [8, 11] (fun va vb wj => ∃ (jj : Nat) (v8 : Value), jj ≤ dl ∧ v8 = va ∧ vb = .int .i64 (jj : Int) ∧ Aside0 (IR w5.heap.size wj v8 (p1 ++ (((o.d.zip o.a).take jj).filter fun p => p.2 == (i : Int)).map Prod.fst)) ∧ Aside0 (Below w5.heap.size w5 wj)) (fun _ vb _ => dl - (intOf vb).toNat)
              case atStart => exact ⟨0, _, Nat.zero_le _, rfl, rfl, ⟨by rw [List.take_zero, List.filter_nil, List.map_nil, List.append_nil]; exact HI.out⟩, HB2⟩
              case round =>
                clear HI HB2
                obtain ⟨jj, v8, hjj, rfl, rfl, HI, HB2⟩ := hrel
                rename World => wj
                obtain ⟨adt, T3, u3, T4, u4, T6, u6_, T7, u7_, T8, u8_, rfl, hc⟩ := at_T70 (Kd.C_below HTC.out.2 HB2.out) (kk : Int) (Int.natCast_nonneg _) hkq
                rw [HRD.out] at hc
                obtain ⟨_, _, _, _, _, _, _, t7_, t8_, _, _, _, _, _, _, lt7, gt7, lt8, gt8⟩ := hc
                rw [HVD.out.1, HDL.out] at t7_ lt7 gt7
                rw [HVD.out.2, HAL.out] at t8_ lt8 gt8
                rw [Int.toNat_natCast] at t7_ t8_
                by_cases hjl : jj < dl
                · have j1_ : decide ((jj : Int) < (dl : Int)) = true := by simp; omega
                  have j1b_ : decide (jj < dl) = true := by simp; omega
                  have hjq : (jj : Int) < (dl : Int) := by omega
                  obtain ⟨a7, rfl, e7_⟩ := Kd.at_int gt7 (jj : Int) (Int.natCast_nonneg _) hjq
                  obtain ⟨a8, rfl, e8_⟩ := Kd.at_int gt8 (jj : Int) (Int.natCast_nonneg _) hjq
                  obtain ⟨dj, HDJ⟩ : ∃ z, Aside0 (rd o.d (jj : Int) = z) := ⟨_, ⟨rfl⟩⟩
                  obtain ⟨aj, HAJ⟩ : ∃ z, Aside0 (rd o.a (jj : Int) = z) := ⟨_, ⟨rfl⟩⟩
                  rw [HDJ.out, Int.toNat_natCast] at e7_
                  rw [HAJ.out, Int.toNat_natCast] at e8_
                  have HTJ : Aside0 ((o.d.zip o.a).take (jj + 1) = (o.d.zip o.a).take jj ++ [(dj, aj)]) := ⟨by
                    rw [List.take_succ_eq_append_getElem (by rw [HZ.out]; exact hjl), List.getElem_zip, ← HDJ.out, ← HAJ.out]
                    unfold rd
                    rw [Int.toNat_natCast, List.getD_eq_getElem?_getD, List.getD_eq_getElem?_getD, List.getElem?_eq_getElem (by rw [HDL.out]; exact hjl), List.getElem?_eq_getElem (by rw [HAL.out]; exact hjl)]
                    rfl⟩
                  clear lt7 lt8 gt7 gt8
                  by_cases hae : aj = (i : Int)
                  · have ea_ : (aj == (i : Int)) = true := by simpa using hae
                    have HFN : Aside0 ((((o.d.zip o.a).take (jj + 1)).filter fun p => p.2 == (i : Int)).map Prod.fst = (((o.d.zip o.a).take jj).filter fun p => p.2 == (i : Int)).map Prod.fst ++ [dj]) := ⟨by rw [HTJ.out, List.filter_append, List.map_append, List.filter_cons_of_pos (by simpa using hae)]; rfl⟩
                    clear hae
                    have hal_ := below_alloc (Below.refl wj.heap.size wj) (.cells #[.int .i64 dj] 3)
                    obtain ⟨v9, w6, hr_, hi_, hbb_⟩ := HI.out.app hal_ dj (heap_alloc_new wj _) (by
                      rw [List.length_append]
                      have h := HP1L.out
                      have h2 : ((((o.d.zip o.a).take jj).filter fun p => p.2 == (i : Int)).map Prod.fst).length ≤ 300 := by
                        rw [List.length_map]
                        exact Nat.le_trans (List.length_filter_le _ _) (by rw [List.length_take]; omega)
                      omega) 39 rfl
                    have HR := Aside0.mk hr_
                    have HI2 := Aside0.mk hi_
                    have HB3 := Aside0.mk (hbb_ _ w5 (Nat.le_refl _) HB2.out)
                    clear hal_ hr_ hi_ hbb_
                    go_wp2_with (at_builtin; refine wpList_append_eq _ rfl (.tmp 82) (.tmp 91) 39 39 rfl _ _ rfl rfl HR.out ?_)
                    go_roundw
                    case rel => exact ⟨jj + 1, _, by omega, rfl, by go_num, ⟨by rw [HFN.out, ← List.append_assoc]; exact HI2.out⟩, HB3⟩
                    case measure => simp [intOf]; omega
                  · have ea_ : (aj == (i : Int)) = false := by simpa using hae
                    have HFN : Aside0 ((((o.d.zip o.a).take (jj + 1)).filter fun p => p.2 == (i : Int)).map Prod.fst = (((o.d.zip o.a).take jj).filter fun p => p.2 == (i : Int)).map Prod.fst) := ⟨by rw [HTJ.out, List.filter_append, List.map_append, List.filter_cons_of_neg (by simpa using hae), List.filter_nil, List.map_nil, List.append_nil]⟩
                    clear hae
                    go_wp2_with fail
                    go_roundw
                    case rel => exact ⟨jj + 1, _, by omega, rfl, by go_num, ⟨by rw [HFN.out]; exact HI.out⟩, HB2⟩
                    case measure => simp [intOf]; omega
                · obtain rfl : dl = jj := by omega
                  have j1b_ : decide (dl < dl) = false := by simp
                  have HFE : Aside0 (p1 ++ (((o.d.zip o.a).take dl).filter fun p => p.2 == (i : Int)).map Prod.fst = p0 ++ (nm.take (kk + 1)).flatMap fun k => doneAt (ofO l k) (i : Int)) := ⟨by
                    rw [List.take_of_length_le (by rw [HZ.out]; exact Nat.le_refl _), HTK.out, List.flatMap_append, ← List.append_assoc, HP1.out]
                    simp only [List.flatMap_cons, List.flatMap_nil, List.append_nil, HO.out]
                    rfl⟩
                  clear lt7 lt8 gt7 gt8
                  rw [HFE.out] at HI
                  go_wp2_with fail
                  go_roundw
                  case rel => exact ⟨kk + 1, _, by omega, rfl, by go_num, HI, HB2⟩
                  case measure => simp [intOf]; omega
            · obtain rfl : q = kk := by omega
              have k1b_ : decide (q < q) = false := by simp
              rw [List.take_of_length_le (by rw [HQ.out]; exact Nat.le_refl _), ← HPN.out] at HI
              go_wp2_with fail
              go_roundw
              case rel => exact ⟨i + 1, _, _, by omega, rfl, by go_num, ⟨rfl⟩, HI, HB2⟩
              case measure => simp [intOf]; omega
        · obtain rfl : n = i := by omega
          have h1b : decide (n < n) = false := by simp
          rw [List.take_of_length_le (by rw [HLn.out]; exact Nat.le_refl _)] at HPS
          obtain ⟨Ap, cp, rfl, hlp, hcp⟩ := HI.out.C
          go_wp2_with fail
          go_ret
          unfold PutP
          rw [HPS.out]
          refine ⟨Ap, cp, rfl, below_step HB.out HB2.out, hlp, ?_⟩
          obtain ⟨k1, k2⟩ := HI.out.1
          refine ⟨k1, ?_⟩
          rcases k2 with k2 | ⟨g, cap, cur, e, hg, r⟩
          · exact .inl k2
          · exact .inr ⟨g, cap, cur, e, Nat.le_trans HB.out.size hg, r⟩
end Go.Proofs.Ytmnglonjekegcaa.Vw
