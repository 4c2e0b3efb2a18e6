/- (c11) Plain: how much a state holds, and which task is meant. -/
import Derived.Test.YtmnglonjekegcaaVwC
namespace Go.Proofs.Ytmnglonjekegcaa.Vw
open Go Go.RowKit Go.Maps Go.Proofs.Ytmnglonjekegcaa.Mk Go.Proofs.Ytmnglonjekegcaa.Rp Go.Proofs.YtmnglonjekegcaaW.PrintWords Go.Proofs.YtmnglonjekegcaaW.PrintLast Go.Proofs.YtmnglonjekegcaaW.PrintMore Go.Proofs.Ytmnglonjekegcaa.Rw Go.Proofs.Ytmnglonjekegcaa.Ow Go.Proofs.Ytmnglonjekegcaa.Mono
set_option linter.unusedVariables false
set_option linter.unusedSimpArgs false
theorem may_nums {x : S47} (h : mayE x = true) : (0 ≤ x.f1 ∧ x.f1 ≤ 1048576) ∧ (0 ≤ x.f2 ∧ x.f2 ≤ 1048576) ∧ (0 ≤ x.f3 ∧ x.f3 ≤ 1048576) ∧ (0 ≤ x.f4 ∧ x.f4 ≤ 1048576) ∧ x.f7.length ≤ 8 ∧ x.f8.length ≤ 256 ∧ 1 ≤ x.f0 ∧ x.f0 ≤ 6 := by
  have h0 : Rc.may0 (entOf x) = true := by
    unfold mayE Rc.may at h
    simp only [Bool.and_eq_true] at h
    first | exact h.1 | exact h.1.1 | exact h
  unfold Rc.may0 Rc.num entOf at h0
  simp only [Bool.and_eq_true, decide_eq_true_eq] at h0
  omega
structure StInv (n : Nat) (st : St) : Prop where
  bl : BdL (n * n) st.L
  tl : st.T.length ≤ n
  each : ∀ s ∈ st.T, s.o.length ≤ n ∧ s.t.f4.length ≤ n * 256 ∧ 0 ≤ s.t.f2 ∧ s.t.f2 ≤ n ∧ ∀ p ∈ s.o, mayE p.2 = true
  ndT : (st.T.map (·.t.f0)).Nodup
theorem StInv.start : StInv 0 ⟨[], []⟩ := ⟨⟨by simp, by simp⟩, by simp, by simp, by simp⟩
def OkT (n : Nat) (s : TS) : Prop := s.o.length ≤ n ∧ s.t.f4.length ≤ n * 256 ∧ 0 ≤ s.t.f2 ∧ s.t.f2 ≤ n ∧ ∀ p ∈ s.o, mayE p.2 = true
theorem OkT.mono {n m : Nat} {s : TS} (h : OkT n s) (hm : n ≤ m) : OkT m s := ⟨Nat.le_trans h.1 hm, Nat.le_trans h.2.1 (Nat.mul_le_mul_right 256 hm), h.2.2.1, Int.le_trans h.2.2.2.1 (Int.ofNat_le.2 hm), h.2.2.2.2⟩
theorem OkT.new (n : Nat) (k : Int) : OkT n (newT k) := ⟨by simp [newT], by simp [newT], by simp [newT], by simp [newT], by simp [newT]⟩
theorem ens_ok {n : Nat} {T : List TS} (h : ∀ s ∈ T, OkT n s) (k : Int) : ∀ s ∈ ensT T k, OkT n s := by
  unfold ensT
  split
  · exact h
  · intro s hs
    rcases List.mem_append.1 hs with hs | hs
    · exact h s hs
    · rw [List.mem_singleton] at hs; subst hs; exact OkT.new n k
theorem ens_len (T : List TS) (k : Int) : (ensT T k).length ≤ T.length + 1 := by
  unfold ensT
  split
  · omega
  · rw [List.length_append]; simp
theorem mod_ok {n m : Nat} {T : List TS} {k : Int} {f : TS → TS} (h : ∀ s ∈ T, OkT n s) (hm : n ≤ m) (hf : ∀ s, OkT n s → OkT m (f s)) : ∀ s ∈ modT T k f, OkT m s := by
  intro s hs
  obtain ⟨a, ha, rfl⟩ := List.mem_map.1 hs
  split
  · exact hf a (h a ha)
  · exact (h a ha).mono hm
theorem f4_le {a n : Nat} (h : a ≤ n * 256) : a ≤ (n + 1) * 256 := Nat.le_trans h (Nat.mul_le_mul_right 256 (Nat.le_succ n))
theorem f4_app {a b n : Nat} (h : a ≤ n * 256) (hb : b ≤ 256) : a + b ≤ (n + 1) * 256 := by rw [Nat.add_mul, Nat.one_mul]; exact Nat.add_le_add h hb
theorem StInv.step {n : Nat} {st : St} (h : StInv n st) (at_ : Int) (x : S47) : StInv (n + 1) (stepV st at_ x) := by
  have hq : n * n + n + 1 ≤ (n + 1) * (n + 1) := by rw [Nat.add_mul, Nat.mul_add]; omega
  have hsame : StInv (n + 1) st := ⟨h.bl.mono (by omega), by have := h.tl; omega, fun s hs => OkT.mono (h.each s hs) (by omega), h.ndT⟩
  have hens : ∀ k, StInv (n + 1) ⟨st.L, ensT st.T k⟩ := fun k => ⟨h.bl.mono (by omega), Nat.le_trans (ens_len _ _) (by have := h.tl; omega), fun s hs => OkT.mono (ens_ok (n := n) h.each k s hs) (by omega), (ensT_keys h.ndT).1⟩
  have hmod : ∀ (k : Int) (f : TS → TS), (∀ s, (f s).t.f0 = s.t.f0) → (∀ s, OkT n s → OkT (n + 1) (f s)) → StInv (n + 1) ⟨st.L, modT (ensT st.T k) k f⟩ := fun k f hf0 hf => ⟨h.bl.mono (by omega), by show (modT _ _ _).length ≤ _; unfold modT; rw [List.length_map]; exact (hens k).tl, mod_ok (n := n) (ens_ok (n := n) h.each k) (by omega) hf, by rw [modT_keys hf0]; exact (hens k).ndT⟩
  unfold stepV
  split
  · exact hsame
  · rename_i hm
    have hme : mayE x = true := by
      cases hh : mayE x with
      | true => rfl
      | false => exact absurd (.inl hh) hm
    have hx := may_nums hme
    split
    · exact ⟨(h.bl.put x).mono (by omega), hsame.tl, hsame.each, h.ndT⟩
    · split
      · split
        · exact hmod x.f1 _ (fun _ => rfl) fun s hs => ⟨Nat.zero_le _, f4_le hs.2.1, hs.2.2.1, by have := hs.2.2.2.1; show s.t.f2 ≤ _; omega, fun p hp => by simp [fenceT] at hp⟩
        · exact hens _
      · split
        · exact hens _
        · split
          · refine hmod x.f1 _ (fun _ => rfl) fun s hs => ⟨?_, f4_le hs.2.1, hs.2.2.1, by have := hs.2.2.2.1; show s.t.f2 ≤ _; omega, fun p hp => ?_⟩
            · have := hs.1; simp [openT]; omega
            · rcases List.mem_append.1 hp with hp | hp
              · exact hs.2.2.2.2 p hp
              · rw [List.mem_singleton] at hp; subst hp; exact hme
          · have hend : ∀ s, OkT n s → OkT (n + 1) (endT s) := fun s hs => ⟨Nat.zero_le _, f4_le hs.2.1, by have := hs.2.2.1; show 0 ≤ s.t.f2 + 1; omega, by have := hs.2.2.2.1; show s.t.f2 + 1 ≤ _; omega, fun p hp => by simp [endT] at hp⟩
            split
            · have h2 := hmod x.f1 (fun s => endT (offsT x s)) (fun _ => rfl) fun s hs => by
                refine ⟨Nat.zero_le _, ?_, ?_, ?_, fun p hp => by simp [endT] at hp⟩
                · have h3 := f4_app hs.2.1 hx.2.2.2.2.2.1
                  rw [← List.length_append] at h3
                  exact h3
                · have := hs.2.2.1; show 0 ≤ s.t.f2 + 1; omega
                · have := hs.2.2.2.1; show s.t.f2 + 1 ≤ _; omega
              refine ⟨?_, h2.tl, h2.each, h2.ndT⟩
              have ho : (getT st.T x.f1).o.length ≤ n := by
                unfold getT
                cases hf : st.T.find? (fun s => s.t.f0 == x.f1) with
                | none => exact Nat.zero_le _
                | some s => exact (h.each s (List.mem_of_find?_eq_some hf)).1
              have := BdL.foldl ((getT st.T x.f1).o.map Prod.snd) h.bl
              exact this.mono (by rw [List.length_map]; omega)
            · exact hmod x.f1 _ (fun _ => rfl) hend
theorem mem_key_eq {T : List TS} (nd : (T.map (·.t.f0)).Nodup) {a b : TS} (ha : a ∈ T) (hb : b ∈ T) (h : a.t.f0 = b.t.f0) : a = b := by
  induction T with
  | nil => cases ha
  | cons c T ih =>
    rw [List.map_cons, List.nodup_cons] at nd
    rcases List.mem_cons.1 ha with rfl | ha2
    · rcases List.mem_cons.1 hb with rfl | hb2
      · rfl
      · exact (nd.1 (List.mem_map.2 ⟨_, hb2, h.symm⟩)).elim
    · rcases List.mem_cons.1 hb with rfl | hb2
      · exact (nd.1 (List.mem_map.2 ⟨_, ha2, h⟩)).elim
      · exact ih nd.2 ha2 hb2
/-- The task that was found is the one meant. -/
theorem getT_of {T : List TS} {k : Int} {s : TS} (nd : (T.map (·.t.f0)).Nodup) (hs : s ∈ ensT T k) (hk : s.t.f0 = k) : getT T k = s := by
  unfold ensT at hs
  unfold getT
  split at hs
  · rename_i h
    cases hf : T.find? (fun s => s.t.f0 == k) with
    | none =>
      have := List.find?_eq_none.1 hf s hs
      simp [hk] at this
    | some a =>
      have h1 := List.find?_some hf
      exact mem_key_eq nd (List.mem_of_find?_eq_some hf) hs (by simp at h1; exact h1.trans hk.symm)
  · rename_i h
    have hn : ∀ a ∈ T, a.t.f0 ≠ k := fun a ha e => h (hasT_iff.2 (List.mem_map.2 ⟨a, ha, e⟩))
    rw [List.find?_eq_none.2 (fun a ha => by simpa using hn a ha)]
    rcases List.mem_append.1 hs with hs | hs
    · exact absurd hk (hn s hs)
    · rw [List.mem_singleton] at hs; exact hs.symm
/-- Cells of a task stored: its two rows of numbers stay, its open row stays or is none. -/
theorem VS.cells {w w' w0 : World} {base bs i : Nat} {M : List LE} {T : List TE} {e : TE} (h : VS w base bs M T) (hi : T[i]? = some e) (hC : Chg w w' (fun k => k = e.g)) (t' : S41) (it' : List IT) (vp' : Value) (hk : t'.f0 = e.t.f0) (h3 : t'.f3 = e.t.f3) (h4 : t'.f4 = e.t.f4) (hvp : (vp' = e.vp ∧ it' = e.items) ∨ (vp' = .slice none 0 0 ∧ it' = []))
    (hcell : w'.heap[e.g]? = some (.cells #[.int .i64 t'.f0, .int .i64 t'.f1, .int .i64 t'.f2, e.vo, e.vq, .int .i64 t'.f5, vp'] 67 (0, 0))) (hB : Below base w0 w) (hb : base ≤ w.heap.size) : VS w' base bs M (T.set i ⟨t', it', e.g, e.vo, e.vq, vp'⟩) ∧ Below base w0 w' := by
  have hE := h.task hi
  have ka : ∀ (v : Value) (T : TypeId) (z n : Nat) (xs : List Value), T ≠ 67 → w.ownsRow base T z v n xs → w'.ownsRow base T z v n xs := fun v T z n xs hT ho => own_kept ho fun k hk => by
    obtain ⟨cur, hc⟩ := own_block ho hk
    exact hC.block k (Ow.own_lt ho k hk.symm).2 (blk_types hc hE.cell hT)
  refine h.setT hi (e' := ⟨t', it', e.g, e.vo, e.vq, vp'⟩) hk rfl ⟨hE.gb, hcell, ?_, ?_, ?_, hE.self, by rw [hk]; exact hE.wf⟩ (n0 := w.heap.size) (n1 := w.heap.size) (n2 := w.heap.size) (HatN.refl _ _) (HatN.refl _ _) ?_ (Nat.le_refl _) (Nat.le_refl _) (Nat.le_refl _) (hC.mono fun k hk => .inl hk) hB hb
  · show w'.ownsRow base _ 1 e.vo t'.f3.length (cellsI t'.f3)
    rw [h3]
    exact ka _ _ _ _ _ (by decide) hE.ro
  · show w'.ownsRow base _ 1 e.vq t'.f4.length (cellsI t'.f4)
    rw [h4]
    exact ka _ _ _ _ _ (by decide) hE.rq
  · rcases hvp with ⟨rfl, rfl⟩ | ⟨rfl, rfl⟩
    · exact ka _ _ _ _ _ (by decide) hE.rp
    · exact World.ownsRow_nil _ _ _ _
  · rcases hvp with ⟨rfl, rfl⟩ | ⟨rfl, rfl⟩
    · exact HatN.refl _ _
    · exact .inl rfl
/-- An entry more is open. -/
theorem open_end {w Wa W2 w0 : World} {base bs i : Nat} {M : List LE} {T : List TE} {e : TE} (h : VS w base bs M T) (hi : T[i]? = some e) (it : IT) (vp' : Value) (hb1 : Below w.heap.size w Wa) (hg : Wa.grownBy W2 e.vp.ownBlock) (hat : Hat e.vp vp' Wa.heap.size) (hp : W2.ownsRow base 75 12 vp' (e.items.length + 1) (cellsIt e.items ++ itC it)) (hB : Below base w0 w) (hb : base ≤ w.heap.size) :
    VS (W2.setCell ⟨e.g, 6, none⟩ vp') base bs M (T.set i { e with items := e.items ++ [it], vp := vp' }) ∧ Below base w0 (W2.setCell ⟨e.g, 6, none⟩ vp') := by
  have hE := h.task hi
  have hne : some e.g ≠ e.vp.ownBlock := fun hh => by
    obtain ⟨cur, hc⟩ := own_block hE.rp hh
    exact blk_types hE.cell hc (by decide) rfl
  have hcell2 := blk_grown (blk_below hE.cell hb1) hg hne
  have kp : ∀ (v : Value) (T : TypeId) (z n : Nat) (xs : List Value), T ≠ 67 → W2.ownsRow base T z v n xs → (W2.setCell ⟨e.g, 6, none⟩ vp').ownsRow base T z v n xs := fun v T z n xs hT ho => own_kept ho fun k hk => by
    obtain ⟨cur, hc⟩ := own_block ho hk
    exact Below.heap_setCell _ _ _ k (blk_types hc hcell2 hT)
  have kg : ∀ (v : Value) (T : TypeId) (z n : Nat) (xs : List Value), T ≠ 75 → w.ownsRow base T z v n xs → W2.ownsRow base T z v n xs := fun v T z n xs hT ho => own_kept ho fun k hk => by
    have hlt := (Ow.own_lt ho k hk.symm).2
    refine (hg.block k (Nat.lt_of_lt_of_le hlt hb1.size) fun hh => ?_).trans (hb1.block k hlt)
    obtain ⟨cur, hc⟩ := own_block ho hk
    obtain ⟨cur2, hc2⟩ := own_block hE.rp hh
    exact blk_types hc hc2 hT rfl
  refine h.setT hi (e' := { e with items := e.items ++ [it], vp := vp' }) rfl rfl ⟨hE.gb, blk_put hcell2 6 vp' rfl, kp _ _ _ _ _ (by decide) (kg _ _ _ _ _ (by decide) hE.ro), kp _ _ _ _ _ (by decide) (kg _ _ _ _ _ (by decide) hE.rq), kp _ _ _ _ _ (by decide) ?_, hE.self, hE.wf⟩ (n0 := w.heap.size) (n1 := w.heap.size) (n2 := Wa.heap.size) (HatN.refl _ _) (HatN.refl _ _) (.inr hat) (Nat.le_refl _) (Nat.le_refl _) hb1.size ?_ hB hb
  · show W2.ownsRow base _ 12 vp' (e.items ++ [it]).length (cellsIt (e.items ++ [it]))
    rw [List.length_append, cellsIt_append]
    have e2 : cellsIt [it] = itC it := by simp [cellsIt]
    rw [e2]
    exact hp
  · exact ((Chg.of_below hb1).trans ((Chg.of_grown hg).mono fun k hk => .inr (.inr hk))).set (p := ⟨e.g, 6, none⟩) (.inl rfl) _
theorem set_s {T2 : List TE} {T : List TS} {k : Int} {i : Nat} {e e' : TE} (nd : (T.map (·.t.f0)).Nodup) (hT : T2.map TE.s = ensT T k) (hi : T2[i]? = some e) (hk : e.t.f0 = k) (f : TS → TS) (he : e'.s = f e.s) : (T2.set i e').map TE.s = modT (ensT T k) k f := by
  have h := set_mod (fun s : TS => s.t.f0) (M := T2.map TE.s) (i := i) (e := e.s) (by rw [hT]; exact (ensT_keys nd).1) (by rw [List.getElem?_map, hi]; rfl) f
  rw [List.map_set, he, h, hT]
  show (ensT T k).map _ = _
  unfold modT
  rw [show e.s.t.f0 = k from hk]
section
variable {st : St} {at_ : Int} {x : S47} {s : TS}
theorem stepV_in (h0 : ¬ (mayE x = false ∨ x.f0 = 6)) (h1 : x.f0 = 1) : stepV st at_ x = ⟨putL st.L x, st.T⟩ := by unfold stepV; rw [if_neg h0, if_pos h1]
theorem stepV_fence (h0 : ¬ (mayE x = false ∨ x.f0 = 6)) (h1 : ¬ x.f0 = 1) (h5 : x.f0 = 5) (hg : getT st.T x.f1 = s) (h : s.t.f1 < x.f2) : stepV st at_ x = ⟨st.L, modT (ensT st.T x.f1) x.f1 (fenceT x)⟩ := by
  unfold stepV; rw [if_neg h0, if_neg h1, if_pos h5, hg, if_pos h]
theorem stepV_nofence (h0 : ¬ (mayE x = false ∨ x.f0 = 6)) (h1 : ¬ x.f0 = 1) (h5 : x.f0 = 5) (hg : getT st.T x.f1 = s) (h : ¬ s.t.f1 < x.f2) : stepV st at_ x = ⟨st.L, ensT st.T x.f1⟩ := by
  unfold stepV; rw [if_neg h0, if_neg h1, if_pos h5, hg, if_neg h]
theorem stepV_other (h0 : ¬ (mayE x = false ∨ x.f0 = 6)) (h1 : ¬ x.f0 = 1) (h5 : ¬ x.f0 = 5) (hg : getT st.T x.f1 = s) (h : x.f2 ≠ s.t.f1 ∨ x.f3 ≠ s.t.f2) : stepV st at_ x = ⟨st.L, ensT st.T x.f1⟩ := by
  unfold stepV; rw [if_neg h0, if_neg h1, if_neg h5, hg, if_pos h]
theorem stepV_data (h0 : ¬ (mayE x = false ∨ x.f0 = 6)) (h1 : ¬ x.f0 = 1) (h5 : ¬ x.f0 = 5) (hg : getT st.T x.f1 = s) (h : x.f2 = s.t.f1) (h' : x.f3 = s.t.f2) (h2 : x.f0 = 2) : stepV st at_ x = ⟨st.L, modT (ensT st.T x.f1) x.f1 (openT at_ x)⟩ := by
  unfold stepV; rw [if_neg h0, if_neg h1, if_neg h5, hg, if_neg (fun hh => hh.elim (fun e => e h) (fun e => e h')), if_pos h2]
theorem stepV_end (h0 : ¬ (mayE x = false ∨ x.f0 = 6)) (h1 : ¬ x.f0 = 1) (h5 : ¬ x.f0 = 5) (hg : getT st.T x.f1 = s) (h : x.f2 = s.t.f1) (h' : x.f3 = s.t.f2) (h2 : ¬ x.f0 = 2) : stepV st at_ x = ⟨if x.f0 = 3 then commitL st.L s.o else st.L, modT (ensT st.T x.f1) x.f1 fun s => endT (if x.f0 = 3 then offsT x s else s)⟩ := by
  unfold stepV
  rw [if_neg h0, if_neg h1, if_neg h5, hg, if_neg (fun hh => hh.elim (fun e => e h) (fun e => e h')), if_neg h2]
  split <;> rfl
end
end Go.Proofs.Ytmnglonjekegcaa.Vw
