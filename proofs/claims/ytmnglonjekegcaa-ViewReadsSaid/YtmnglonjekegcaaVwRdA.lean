/- (c11) Towards view.Read: plain steps. -/
import Derived.Test.YtmnglonjekegcaaVwThr
import Derived.Test.YtmnglonjekegcaaVwSrt
import Derived.Test.YtmnglonjekegcaaWWords
namespace Go.Proofs.Ytmnglonjekegcaa.Vw
open Go Go.RowKit Go.Maps Go.Proofs.Ytmnglonjekegcaa.Mk Go.Proofs.Ytmnglonjekegcaa.Rp Go.Proofs.YtmnglonjekegcaaW.PrintWords Go.Proofs.YtmnglonjekegcaaW.PrintLast Go.Proofs.YtmnglonjekegcaaW.PrintMore Go.Proofs.Ytmnglonjekegcaa.Rw Go.Proofs.Ytmnglonjekegcaa.Ow Go.Proofs.Ytmnglonjekegcaa.Mono
set_option linter.unusedVariables false
set_option linter.unusedSimpArgs false
set_option maxRecDepth 100000
theorem TILV : TInfo 26 36 3 56 := tinfo_of Try.underlying26 info36 rfl (by omega)
theorem TITV : TInfo 27 41 6 80 := tinfo_of Try.underlying27 info41 rfl (by omega)
theorem reps_map {α β : Type} {K : α → List Value → Prop} {sz : Nat} (bs : List β) (enc : β → List Value) (val : β → α) (h : ∀ b ∈ bs, K (val b) (enc b) ∧ (enc b).length = sz) : Reps K sz (bs.map val) (bs.flatMap enc) := by
  induction bs with
  | nil => exact Reps.none _ _
  | cons b bs ih => exact Reps.front (h b (by simp)).1 (h b (by simp)).2 (ih fun c hc => h c (by simp [hc])) (by simp)
theorem C_own {α : Type} {d : Kd α} {w : World} {base : Nat} {e : TypeId} {v : Value} {n : Nat} {cs : List Value} {ps : List α} (ho : w.ownsRow base e d.sz v n cs) (hr : Reps (d.K w) d.sz ps cs) (hl : ps.length = n) : ∃ A c, v = .slice A n c ∧ n ≤ c ∧ Kd.C d w A n ps := by
  obtain ⟨h1, h2⟩ := ho
  rcases h2 with ⟨rfl, h0⟩ | ⟨g, cap, cur, rfl, hb, hg, hnc, hcm, hcs, htk⟩
  · exact ⟨none, 0, by rw [h0], by omega, hl, by omega, fun h => by omega⟩
  refine ⟨some ⟨g, 0, none⟩, cap, rfl, hnc, hl, by have : maxLen ≤ 9223372036854775807 := (by decide); omega, fun _ => ⟨_, rfl, fun j p hj => ?_⟩⟩
  have hK := hr.2 j p hj
  refine ⟨_, d.K_len hK, hK, fun i u hu => ?_⟩
  have hi : i < d.sz := by
    have := (List.getElem?_eq_some_iff.1 hu).1
    rw [d.K_len hK] at this
    exact this
  rw [List.getElem?_take_of_lt hi, List.getElem?_drop] at hu
  rw [Addr.add_lit, Nat.zero_add]
  have hcur : cur.toList = cs ++ cur.toList.drop (n * d.sz) := by
    have := List.take_append_drop (n * d.sz) cur.toList
    rw [htk] at this
    exact this.symm
  rw [cell_row hg hcur, List.getElem?_append_left (List.getElem?_eq_some_iff.1 hu).1]
  exact hu
theorem intC {w : World} {base n : Nat} {v : Value} {l : List Int} (ho : w.ownsRow base 3 1 v n (cellsI l)) (hl : l.length = n) : ∃ A c, v = .slice A n c ∧ n ≤ c ∧ Kd.C (Kd.int .i64) w A n l := by
  have e : cellsI l = l.flatMap fun a => [Value.int .i64 a] := List.map_eq_flatMap
  have hr := reps_map (K := (Kd.int .i64).K w) (sz := 1) l (fun a => [Value.int .i64 a]) id fun b _ => ⟨rfl, rfl⟩
  rw [List.map_id] at hr
  exact C_own (d := Kd.int .i64) (by rw [e] at ho; exact ho) hr hl
theorem boolC {w : World} {base n : Nat} {v : Value} {l : List Bool} (ho : w.ownsRow base 4 1 v n (cellsB l)) (hl : l.length = n) : ∃ A c, v = .slice A n c ∧ n ≤ c ∧ Kd.C Kd.bool w A n l := by
  have e : cellsB l = l.flatMap fun a => [Value.bool a] := List.map_eq_flatMap
  have hr := reps_map (K := Kd.bool.K w) (sz := 1) l (fun a => [Value.bool a]) id fun b _ => ⟨rfl, rfl⟩
  rw [List.map_id] at hr
  exact C_own (d := Kd.bool) (by rw [e] at ho; exact ho) hr hl
theorem recC {w : World} {base n : Nat} {v : Value} {l : List S45} (ho : w.ownsRow base 45 3 v n (cellsR l)) (hl : l.length = n) : ∃ A c, v = .slice A n c ∧ n ≤ c ∧ Kd.C k45 w A n l := by
  have hr := reps_map (K := k45.K w) (sz := 3) l (fun r => [.int .i64 r.f0, .int .i64 r.f1, .int .i64 r.f2]) id fun b _ => ⟨k45_mk w b, rfl⟩
  rw [List.map_id] at hr
  exact C_own (d := k45) ho hr hl
theorem log_K {w : World} {base : Nat} {e : LE} (h : LogAt w base e) : k36.K w e.l [.int .i64 e.l.f0, e.vr, e.vd] := by
  obtain ⟨A1, c1, e1, h1, g1⟩ := recC h.rr rfl
  obtain ⟨A2, c2, e2, h2, g2⟩ := boolC h.rd rfl
  rw [e1, e2]
  exact k36_mk w e.l h1 g1 h2 g2
def tvC (e : TE) : List Value := [.int .i64 e.t.f0, .int .i64 e.t.f1, .int .i64 e.t.f2, e.vo, e.vq, .int .i64 (e.items.length : Int)]
def lvC (e : LE) : List Value := [.int .i64 e.l.f0, e.vr, e.vd]
theorem task_K {w : World} {base : Nat} {e : TE} (ho : w.ownsRow base 3 1 e.vo e.t.f3.length (cellsI e.t.f3)) (hq : w.ownsRow base 3 1 e.vq e.t.f4.length (cellsI e.t.f4)) : k41.K w (toldT e.s) (tvC e) := by
  obtain ⟨A1, c1, e1, h1, g1⟩ := intC ho rfl
  obtain ⟨A2, c2, e2, h2, g2⟩ := intC hq rfl
  have hl : (e.s.o.length : Int) = (e.items.length : Int) := by simp [TE.s]
  unfold tvC toldT
  rw [hl, e1, e2]
  exact k41_mk w { e.t with f5 := (e.items.length : Int) } h1 g1 h2 g2
/-- Blocks of a type that the state has none of: the state stays. -/
theorem VS.other {w w' : World} {base bs : Nat} {M : List LE} {T : List TE} (h : VS w base bs M T) {S : Nat → Prop} (hC : Chg w w' S) (hS : ∀ k, S k → ∃ cs X, w.heap[k]? = some (.cells cs X (0, 0)) ∧ ¬ isL X ∧ ¬ isT X ∧ X ≠ 62) : VS w' base bs M T := by
  obtain ⟨⟨bl, bt, hst, hL, hT, hne⟩, hbb⟩ := h
  have keep : ∀ (k : Nat) (X : TypeId) (cs : Array Value), (isL X ∨ isT X ∨ X = 62) → w.heap[k]? = some (.cells cs X (0, 0)) → w'.heap[k]? = some (.cells cs X (0, 0)) := fun k X cs hX hk => (hC.block k (blk_lt hk) fun hh => by
    obtain ⟨cs2, X2, h2, n1, n2, n3⟩ := hS k hh
    rw [hk] at h2
    injection h2 with h2
    injection h2 with _ h2
    subst h2
    rcases hX with hX | hX | hX
    · exact n1 hX
    · exact n2 hX
    · exact n3 hX).trans hk
  have kM : ∀ (k : Nat) (L : List (Int × Int)), MapP w k L → w'.heap[k]? = w.heap[k]? := fun k L hm => by
    obtain ⟨es, clock, hb⟩ := hm.isMap
    refine hC.block k hm.lt fun hh => ?_
    obtain ⟨cs2, X2, h2, _⟩ := hS k hh
    rw [h2] at hb
    cases hb
  exact ⟨⟨bl, bt, keep bs _ _ (.inr (.inr rfl)) hst, hL.keep (kM bl _ hL.mp) fun k X cs hX hk => keep k X cs (.inl hX) hk, hT.keep (kM bt _ hT.mp) fun k X cs hX hk => keep k X cs (.inr (.inl hX)) hk, hne⟩, hbb⟩
/-- A key that is there leads to its log. -/
theorem logs_at {M : List LE} {k : Int} (hk : k ∈ M.map fun e => e.l.f0) : ∃ (i : Nat) (e : LE), M[i]? = some e ∧ e.l.f0 = k ∧ lk (M.map fun e => (e.l.f0, (e.g : Int))) k = some (e.g : Int) := by
  cases h : lk (M.map fun e => (e.l.f0, (e.g : Int))) k with
  | none => exact absurd hk (lk_no h)
  | some g =>
    obtain ⟨i, e, h1, h2, h3⟩ := lk_at h
    exact ⟨i, e, h1, h2, by rw [h3]⟩
theorem tasks_at {M : List TE} {k : Int} (hk : k ∈ M.map fun e => e.t.f0) : ∃ (i : Nat) (e : TE), M[i]? = some e ∧ e.t.f0 = k ∧ lk (M.map fun e => (e.t.f0, (e.g : Int))) k = some (e.g : Int) := by
  cases h : lk (M.map fun e => (e.t.f0, (e.g : Int))) k with
  | none => exact absurd hk (lkT_no h)
  | some g =>
    obtain ⟨i, e, h1, h2, h3⟩ := lkT_at h
    exact ⟨i, e, h1, h2, by rw [h3]⟩
theorem getLV_of {L : List S36} (nd : (L.map (·.f0)).Nodup) {l : S36} (hl : l ∈ L) : getLV L l.f0 = l := by
  unfold getLV
  induction L with
  | nil => cases hl
  | cons a L ih =>
    rw [List.map_cons, List.nodup_cons] at nd
    rw [List.find?_cons]
    rcases List.mem_cons.1 hl with rfl | hl2
    · simp
    · have hne : (a.f0 == l.f0) = false := by
        simp only [beq_eq_false_iff_ne, ne_eq]
        exact fun e => nd.1 (List.mem_map.2 ⟨l, hl2, e.symm⟩)
      rw [hne]
      exact ih nd.2 hl2
theorem getT_in {T : List TS} (nd : (T.map (·.t.f0)).Nodup) {s : TS} (hs : s ∈ T) : getT T s.t.f0 = s :=
  getT_of nd (by unfold ensT; rw [if_pos (hasT_iff.2 (List.mem_map.2 ⟨s, hs, rfl⟩))]; exact hs) rfl
/-- The same task but for how much is told open. -/
structure TEq (e e' : TE) : Prop where
  g : e'.g = e.g
  vo : e'.vo = e.vo
  vq : e'.vq = e.vq
  vp : e'.vp = e.vp
  it : e'.items = e.items
  f0 : e'.t.f0 = e.t.f0
  f1 : e'.t.f1 = e.t.f1
  f2 : e'.t.f2 = e.t.f2
  f3 : e'.t.f3 = e.t.f3
  f4 : e'.t.f4 = e.t.f4
theorem TEq.refl (e : TE) : TEq e e := ⟨rfl, rfl, rfl, rfl, rfl, rfl, rfl, rfl, rfl, rfl⟩
def TsEq (T T' : List TE) : Prop := T'.length = T.length ∧ ∀ (j : Nat) (e e' : TE), T[j]? = some e → T'[j]? = some e' → TEq e e'
theorem TsEq.refl (T : List TE) : TsEq T T := ⟨rfl, fun j e e' h1 h2 => by rw [h1] at h2; injection h2 with h2; rw [← h2]; exact TEq.refl e⟩
theorem TsEq.at_ {T T' : List TE} (h : TsEq T T') {j : Nat} {e : TE} (hj : T[j]? = some e) : ∃ e', T'[j]? = some e' ∧ TEq e e' := by
  have hl := (List.getElem?_eq_some_iff.1 hj).1
  have h2 : T'[j]? = some (T'[j]'(by rw [h.1]; exact hl)) := List.getElem?_eq_getElem _
  exact ⟨_, h2, h.2 j e _ hj h2⟩
theorem TsEq.set {T T' : List TE} (h : TsEq T T') {i : Nat} {e e' : TE} (hi : T[i]? = some e) (he : TEq e e') : TsEq T (T'.set i e') := by
  refine ⟨by rw [List.length_set]; exact h.1, fun j a b ha hb => ?_⟩
  by_cases hj : i = j
  · subst hj
    rw [List.getElem?_set_self (by rw [h.1]; exact (List.getElem?_eq_some_iff.1 hi).1)] at hb
    injection hb with hb
    rw [hi] at ha
    injection ha with ha
    rw [← ha, ← hb]
    exact he
  · rw [List.getElem?_set_ne hj] at hb
    exact h.2 j a b ha hb
theorem TsEq.keys {T T' : List TE} (h : TsEq T T') : T'.map (fun e => (e.t.f0, (e.g : Int))) = T.map fun e => (e.t.f0, (e.g : Int)) := by
  refine List.ext_getElem? fun j => ?_
  rw [List.getElem?_map, List.getElem?_map]
  cases hj : T[j]? with
  | none =>
    have : T'[j]? = none := by rw [List.getElem?_eq_none_iff, h.1]; exact List.getElem?_eq_none_iff.1 hj
    rw [this]
  | some e =>
    obtain ⟨e', h1, h2⟩ := h.at_ hj
    rw [h1]
    simp [h2.f0, h2.g]
theorem cellsI_at {l : List Int} {j : Nat} {a : Int} (h : l[j]? = some a) : (cellsI l)[j]? = some (.int .i64 a) := by
  unfold cellsI
  rw [List.getElem?_map, h]
  rfl
theorem TEq.tv {e e' : TE} (h : TEq e e') : tvC e' = tvC e := by unfold tvC; rw [h.f0, h.f1, h.f2, h.vo, h.vq, h.it]
/-- What lies in blocks of cells that are no entries' rows stays. -/
def KeepE (W W2 : World) : Prop := ∀ (k : Nat) (T : TypeId) (cs : Array Value), T ≠ 47 → W.heap[k]? = some (.cells cs T (0, 0)) → W2.heap[k]? = some (.cells cs T (0, 0))
/-- What is told, in memory. -/
theorem read_end {W : World} {base bs b1 b2 m mt : Nat} {l : List S47} {M : List LE} {T T' : List TE} {es : List LE} {ts : List TE} {v1 v2 : Value} (hV : VS W base bs M T') (hTs : TsEq T T') (hM : (⟨M.map (·.l), T.map TE.s⟩ : St) = throughV l)
    (h1 : W.ownsRow b1 36 3 v1 m (es.flatMap lvC)) (hl1 : es.length = m) (he1 : ∀ e ∈ es, e ∈ M) (hk1 : es.map (fun e => e.l.f0) = sortI (M.map fun e => e.l.f0))
    (h2 : W.ownsRow b2 41 6 v2 mt (ts.flatMap tvC)) (hl2 : ts.length = mt) (he2 : ∀ e ∈ ts, e ∈ T) (hk2 : ts.map (fun e => e.t.f0) = sortI (T.map fun e => e.t.f0)) :
    ∃ A1 c1 A2 c2, v1 = .slice A1 (readV l).f0.length c1 ∧ v2 = .slice A2 (readV l).f1.length c2 ∧ (readV l).f0.length ≤ c1 ∧ Kd.C k36 W A1 (readV l).f0.length (readV l).f0 ∧ (readV l).f1.length ≤ c2 ∧ Kd.C k41 W A2 (readV l).f1.length (readV l).f1 ∧ ∀ W2 : World, KeepE W W2 → Kd.C k36 W2 A1 (readV l).f0.length (readV l).f0 ∧ Kd.C k41 W2 A2 (readV l).f1.length (readV l).f1 := by
  obtain ⟨⟨bl, bt, hst, hL, hT, hne⟩, hbb⟩ := hV
  have ndL : ((M.map (·.l)).map (·.f0)).Nodup := by rw [List.map_map]; exact hL.nd
  have hinv := StInv.through l
  rw [← hM] at hinv
  have ndT := hinv.ndT
  have e1 : (readV l).f0 = es.map (·.l) := by
    unfold readV
    rw [← hM]
    show (sortI ((M.map (·.l)).map (·.f0))).map _ = _
    rw [List.map_map, show (M.map ((fun x : S36 => x.f0) ∘ fun e : LE => e.l)) = M.map fun e => e.l.f0 from rfl, ← hk1, List.map_map]
    exact List.map_congr_left fun e he => getLV_of ndL (List.mem_map.2 ⟨e, he1 e he, rfl⟩)
  have e2 : (readV l).f1 = ts.map fun e => toldT e.s := by
    unfold readV
    rw [← hM]
    show (sortI ((T.map TE.s).map (·.t.f0))).map _ = _
    rw [List.map_map, show (T.map ((fun x : TS => x.t.f0) ∘ TE.s)) = T.map fun e => e.t.f0 from rfl, ← hk2, List.map_map]
    refine List.map_congr_left fun e he => ?_
    show toldT (getT (T.map TE.s) e.s.t.f0) = _
    rw [getT_in ndT (List.mem_map.2 ⟨e, he2 e he, rfl⟩)]
  have n1 : (readV l).f0.length = m := by rw [e1, List.length_map, hl1]
  have n2 : (readV l).f1.length = mt := by rw [e2, List.length_map, hl2]
  have core : ∀ W2 : World, KeepE W W2 → (∃ A c, v1 = .slice A m c ∧ m ≤ c ∧ Kd.C k36 W2 A m (es.map (·.l))) ∧ (∃ A c, v2 = .slice A mt c ∧ mt ≤ c ∧ Kd.C k41 W2 A mt (ts.map fun e => toldT e.s)) := fun W2 hk => by
    refine ⟨C_own (d := k36) (own_kept h1 fun k e => by obtain ⟨cur, hc⟩ := own_block h1 e; rw [hk _ _ _ (by decide) hc, hc]) (reps_map (K := k36.K W2) (sz := 3) es lvC (·.l) fun e he => ⟨log_K ((hL.each e (he1 e he)).keep fun k T cs hT hc => hk k T cs (by unfold isL at hT; rcases hT with rfl | rfl | rfl <;> decide) hc), rfl⟩) (by rw [List.length_map, hl1]), ?_⟩
    refine C_own (d := k41) (own_kept h2 fun k e => by obtain ⟨cur, hc⟩ := own_block h2 e; rw [hk _ _ _ (by decide) hc, hc]) (reps_map (K := k41.K W2) (sz := 6) ts tvC (fun e => toldT e.s) fun e he => ⟨by
      obtain ⟨j, hj, ej⟩ := List.getElem_of_mem (he2 e he)
      obtain ⟨e', hj', hq⟩ := hTs.at_ (j := j) (e := e) (by rw [List.getElem?_eq_getElem hj, ej])
      have hE := (hT.each e' (List.mem_of_getElem? hj')).keep (w' := W2) fun k T cs hT hc => hk k T cs (by unfold isT at hT; rcases hT with rfl | rfl | rfl <;> decide) hc
      have ro := hE.ro
      have rq := hE.rq
      rw [hq.vo, hq.f3] at ro
      rw [hq.vq, hq.f4] at rq
      exact task_K ro rq, rfl⟩) (by rw [List.length_map, hl2])
  obtain ⟨⟨A1, c1, ev1, q1, g1⟩, A2, c2, ev2, q2, g2⟩ := core W fun _ _ _ _ h => h
  rw [← e1] at g1
  rw [← e2] at g2
  refine ⟨A1, c1, A2, c2, by rw [n1]; exact ev1, by rw [n2]; exact ev2, by rw [n1]; exact q1, by rw [n1]; exact g1, by rw [n2]; exact q2, by rw [n2]; exact g2, fun W2 hk => ?_⟩
  obtain ⟨⟨A3, c3, ev3, _, g3⟩, A4, c4, ev4, _, g4⟩ := core W2 hk
  rw [ev1] at ev3
  rw [ev2] at ev4
  injection ev3 with ev3 _ _
  injection ev4 with ev4 _ _
  rw [← e1, ← ev3] at g3
  rw [← e2, ← ev4] at g4
  rw [n1, n2]
  exact ⟨g3, g4⟩
end Go.Proofs.Ytmnglonjekegcaa.Vw
