/- (c11) Towards commit and step: plain steps. -/
import Derived.Test.YtmnglonjekegcaaVwTk
namespace Go.Proofs.Ytmnglonjekegcaa.Vw
open Go Go.RowKit Go.Maps Go.Proofs.Ytmnglonjekegcaa.Mk Go.Proofs.Ytmnglonjekegcaa.Rp Go.Proofs.YtmnglonjekegcaaW.PrintWords Go.Proofs.YtmnglonjekegcaaW.PrintLast Go.Proofs.YtmnglonjekegcaaW.PrintMore Go.Proofs.Ytmnglonjekegcaa.Rw Go.Proofs.Ytmnglonjekegcaa.Ow Go.Proofs.Ytmnglonjekegcaa.Mono
set_option linter.unusedVariables false
set_option linter.unusedSimpArgs false
theorem cells_C {w : World} {ad : Addr} {n : Nat} {l : List Int} (h : Kd.C (Kd.int .i64) w (some ad) n l) (j : Nat) (u : Value) (hu : (cellsI l)[j]? = some u) : w.cell? (ad.add j) = some u := by
  obtain ⟨h1, h2, h3⟩ := h
  have hj : j < l.length := by
    have := (List.getElem?_eq_some_iff.1 hu).1
    unfold cellsI at this
    rwa [List.length_map] at this
  obtain ⟨ad', e, he⟩ := h3 (by omega)
  injection e with e
  subst e
  obtain ⟨p, hp⟩ : ∃ p, l[j]? = some p := ⟨_, List.getElem?_eq_getElem hj⟩
  have hu2 : u = .int .i64 p := by
    unfold cellsI at hu
    rw [List.getElem?_map, hp] at hu
    injection hu with hu
    exact hu.symm
  obtain ⟨cs, e1, e2, h4⟩ := he j p hp
  have e3 : cs = [.int .i64 p] := e2
  have h5 : w.cell? (ad.add (j * 1 + 0)) = some (.int .i64 p) := h4 0 (.int .i64 p) (by rw [e3]; rfl)
  rw [Nat.mul_one, Nat.add_zero] at h5
  rw [hu2]
  exact h5
theorem cellsI_len (l : List Int) : (cellsI l).length = l.length := by simp [cellsI]
theorem cellsI_one (l : List Int) : ∀ u ∈ cellsI l, u.oneCell' = true := by
  intro u hu
  unfold cellsI at hu
  obtain ⟨a, _, rfl⟩ := List.mem_map.1 hu
  rfl
/-- append(v, x...) of any row of numbers. -/
theorem app_C (ty : TypeId) (hty : ty = 39) (w : World) (base n : Nat) (v : Value) (xs : List Value) (hown : w.ownsRow base 3 1 v n xs) (A : Option Addr) (m c : Nat) (l : List Int) (hC : Kd.C (Kd.int .i64) w A m l) (hn : n + m ≤ 1000000) (hb : base ≤ w.heap.size) :
    ∃ v' w', (Builtin.append_ #[39, 39] ty #[v, .slice A m c]).run Try.prog w = .ok v' w' ∧ w'.ownsRow base 3 1 v' (n + m) (xs ++ cellsI l) ∧ w.grownBy w' v.ownBlock ∧ Hat v v' w.heap.size ∧ ∃ A c', v' = .slice A (n + m) c' := by
  cases A with
  | some ad => exact app_run TII ty hty w base n v xs hown ad m c (cellsI l) (by rw [cellsI_len, hC.1, Nat.mul_one]) (cells_C hC) (cellsI_one l) (by have : 9000000 ≤ maxLen := (by decide); omega) (by omega) hb
  | none =>
    have h0 : m = 0 := by
      obtain ⟨h1, h2, h3⟩ := hC
      rcases Nat.eq_zero_or_pos m with h | h
      · exact h
      · obtain ⟨_, e, _⟩ := h3 h
        cases e
    subst h0
    have h1 : l = [] := List.length_eq_zero_iff.1 hC.1
    subst h1
    obtain ⟨hu, i, zv, hi, hz, hs, hbb, hzc, h0⟩ := TII
    obtain ⟨A, c', e, h1, h2⟩ := slice_of hown
    subst hty
    subst e
    refine ⟨_, w, ?_, by rw [Nat.add_zero]; simpa [cellsI] using hown, ⟨rfl, rfl, rfl, Nat.le_refl _, fun _ _ _ => rfl⟩, .inl rfl, A, c', rfl⟩
    cases A <;> simp [Builtin.append_, run_underlying hu, sizeOf, typeInfo, hi, Builtin.lenOf, Builtin.firstCells, h1, storeCells]
/-- One task is another; nothing else is turned. -/
theorem VS.setT {w w' w0 : World} {base bs i n0 n1 n2 : Nat} {M : List LE} {T : List TE} {e e' : TE} (h : VS w base bs M T) (hi : T[i]? = some e) (hk : e'.t.f0 = e.t.f0) (hg : e'.g = e.g) (he : TaskAt w' base e') (ho : HatN e.vo e'.vo n0) (hq : HatN e.vq e'.vq n1) (hp : HatN e.vp e'.vp n2) (hn0 : w.heap.size ≤ n0) (hn1 : w.heap.size ≤ n1) (hn2 : w.heap.size ≤ n2)
    (hC : Chg w w' (fun k => k = e.g ∨ some k = e.vq.ownBlock ∨ some k = e.vp.ownBlock)) (hB : Below base w0 w) (hb : base ≤ w.heap.size) : VS w' base bs M (T.set i e') ∧ Below base w0 w' := by
  obtain ⟨⟨bl, bt, hst, hL, hT, hne⟩, hbb⟩ := h
  have hE := hT.each e (List.mem_of_getElem? hi)
  have keep : ∀ (k : Nat) (T : TypeId) (cs : Array Value), ¬ isT T → w.heap[k]? = some (.cells cs T (0, 0)) → w'.heap[k]? = some (.cells cs T (0, 0)) := fun k T cs hT hk => (hC.block k (blk_lt hk) fun hh => by
    rcases hh with rfl | hh | hh
    · exact blk_types hk hE.cell (fun e => hT (.inl e)) rfl
    · obtain ⟨cur, hc⟩ := own_block hE.rq hh
      exact blk_types hk hc (fun e => hT (.inr (.inr e))) rfl
    · obtain ⟨cur, hc⟩ := own_block hE.rp hh
      exact blk_types hk hc (fun e => hT (.inr (.inl e))) rfl).trans hk
  have kM : ∀ (k : Nat) (L : List (Int × Int)), MapP w k L → w'.heap[k]? = w.heap[k]? := fun k L hm => by
    obtain ⟨es, clock, hb⟩ := hm.isMap
    refine hC.block k hm.lt fun hh => ?_
    rcases hh with rfl | hh | hh
    · rw [hE.cell] at hb; cases hb
    · obtain ⟨cur, hc⟩ := own_block hE.rq hh
      rw [hc] at hb; cases hb
    · obtain ⟨cur, hc⟩ := own_block hE.rp hh
      rw [hc] at hb; cases hb
  refine ⟨⟨⟨bl, bt, keep bs _ _ (by unfold isT; decide) hst, hL.keep (kM bl _ hL.mp) fun k T cs hTT hk => keep k T cs ?_ hk, ?_, hne⟩, hbb⟩, ?_⟩
  · rcases hTT with rfl | rfl | rfl <;> unfold isT <;> decide
  · refine hT.setAt hi hk hg he ho hq hp hn0 hn1 hn2 (kM bt _ hT.mp) fun k T cs hTT hk h1 h2 h3 => (hC.block k (blk_lt hk) fun hh => ?_).trans hk
    rcases hh with hh | hh | hh
    · exact h1 hh
    · exact h2 hh
    · exact h3 hh
  · refine Chg.below hB hC hb fun k hk => ?_
    rcases hk with rfl | hk | hk
    · exact hE.gb
    · exact (Ow.own_lt hE.rq k hk.symm).1
    · exact (Ow.own_lt hE.rp k hk.symm).1
theorem VS.task {w : World} {base bs i : Nat} {M : List LE} {T : List TE} {e : TE} (h : VS w base bs M T) (hi : T[i]? = some e) : TaskAt w base e := by
  obtain ⟨⟨bl, bt, hst, hL, hT, hne⟩, hbb⟩ := h
  exact hT.each e (List.mem_of_getElem? hi)
/-- The offsets are copied, the order goes on. -/
theorem commit_end {wl Wa W2 w0 : World} {base bs i n0 : Nat} {M : List LE} {T : List TE} {e : TE} {vo vq : Value} {l7 l8 : List Int} (h : VS wl base bs M T) (hi : T[i]? = some e) (hB : Below base w0 wl) (hb : base ≤ wl.heap.size)
    (hWa : Chg wl Wa (fun k => k = e.g)) (hcell : Wa.heap[e.g]? = some (.cells #[.int .i64 e.t.f0, .int .i64 e.t.f1, .int .i64 e.t.f2, vo, e.vq, .int .i64 e.t.f5, e.vp] 67 (0, 0))) (ho : Wa.ownsRow base 3 1 vo l7.length (cellsI l7)) (hn0 : wl.heap.size ≤ n0) (hfr : vo.ownBlock = none ∨ vo.ownBlock = some n0)
    (hg : Wa.grownBy W2 e.vq.ownBlock) (hat : Hat e.vq vq Wa.heap.size) (hq : W2.ownsRow base 3 1 vq (e.t.f4.length + l8.length) (cellsI e.t.f4 ++ cellsI l8)) :
    VS (W2.setCell ⟨e.g, 4, none⟩ vq) base bs M (T.set i { e with t := { e.t with f3 := l7, f4 := e.t.f4 ++ l8 }, vo := vo, vq := vq }) ∧ Below base w0 (W2.setCell ⟨e.g, 4, none⟩ vq) := by
  have hE := h.task hi
  have lo : ∀ b, vo.ownBlock = some b → wl.heap.size ≤ b ∧ b < Wa.heap.size := fun b hbq => ⟨by
    rcases hfr with e | e
    · rw [e] at hbq; cases hbq
    · rw [e] at hbq; injection hbq with hbq; omega, (Ow.own_lt ho b hbq).2⟩
  have lq : ∀ b, e.vq.ownBlock = some b → b < wl.heap.size := fun b hbq => (Ow.own_lt hE.rq b hbq).2
  have hne : some e.g ≠ e.vq.ownBlock := fun hh => by
    obtain ⟨cur, hc⟩ := own_block hE.rq hh
    exact blk_types hE.cell hc (by decide) rfl
  have hcell2 := blk_grown hcell hg hne
  have kp : ∀ (v : Value) (T : TypeId) (z n : Nat) (xs : List Value), T ≠ 67 → W2.ownsRow base T z v n xs → (W2.setCell ⟨e.g, 4, none⟩ vq).ownsRow base T z v n xs := fun v T z n xs hT ho => own_kept ho fun k hk => by
    obtain ⟨cur, hc⟩ := own_block ho hk
    exact Below.heap_setCell _ _ _ k (blk_types hc hcell2 hT)
  have kg : ∀ (v : Value) (T : TypeId) (z n : Nat) (xs : List Value), (∀ b, v.ownBlock = some b → e.vq.ownBlock ≠ some b) → Wa.ownsRow base T z v n xs → W2.ownsRow base T z v n xs := fun v T z n xs hT ho => own_kept ho fun k hk => hg.block k (Ow.own_lt ho k hk.symm).2 fun hh => hT k hk.symm hh.symm
  have ka : ∀ (v : Value) (T : TypeId) (z n : Nat) (xs : List Value), T ≠ 67 → wl.ownsRow base T z v n xs → Wa.ownsRow base T z v n xs := fun v T z n xs hT ho => own_kept ho fun k hk => by
    obtain ⟨cur, hc⟩ := own_block ho hk
    exact hWa.block k (Ow.own_lt ho k hk.symm).2 (blk_types hc hE.cell hT)
  refine h.setT hi (e' := { e with t := { e.t with f3 := l7, f4 := e.t.f4 ++ l8 }, vo := vo, vq := vq }) rfl rfl ⟨hE.gb, blk_put hcell2 4 vq rfl, ?_, ?_, ?_, ?_, hE.wf⟩ (n0 := n0) (n1 := Wa.heap.size) (n2 := wl.heap.size) ?_ (.inr hat) (HatN.refl _ _) hn0 hWa.size (Nat.le_refl _) ?_ hB hb
  · refine kp _ _ _ _ _ (by decide) (kg _ _ _ _ _ (fun b h1 h2 => ?_) ho)
    have := lo b h1
    have := lq b h2
    omega
  · refine kp _ _ _ _ _ (by decide) ?_
    show W2.ownsRow base _ 1 vq (e.t.f4 ++ l8).length (cellsI (e.t.f4 ++ l8))
    rw [List.length_append, cellsI_append]
    exact hq
  · refine kp _ _ _ _ _ (by decide) (kg _ _ _ _ _ (fun b h1 h2 => ?_) (ka _ _ _ _ _ (by decide) hE.rp))
    obtain ⟨c1, h1⟩ := own_block hE.rp h1.symm
    obtain ⟨c2, h2⟩ := own_block hE.rq h2.symm
    exact blk_types h1 h2 (by decide) rfl
  · intro b h1 h2
    have l2 := lo b h2
    rcases hat with e1 | e1
    · exact absurd (lq b (e1 ▸ h1)) (by omega)
    · have e2 := e1.symm.trans h1
      injection e2 with e2
      omega
  · rcases hfr with e1 | e1
    · exact .inl e1
    · exact .inr (.inr e1)
  · exact ((hWa.mono fun k hk => .inl hk).trans ((Chg.of_grown hg).mono fun k hk => .inr (.inl hk))).set (p := ⟨e.g, 4, none⟩) (.inl rfl) _
theorem commit_keep {wl w5 W W2 : World} {base bs i : Nat} {M : List LE} {T : List TE} {e : TE} (h : VS wl base bs M T) (hi : T[i]? = some e) (hWa : Chg wl w5 (fun k => k = e.g)) (hb : Below w5.heap.size w5 W) (hg : W.grownBy W2 e.vq.ownBlock) (vq : Value) : KeepX (fun T => isL T ∨ isT T) wl (W2.setCell ⟨e.g, 4, none⟩ vq) := by
  intro k T cs hT hk
  have hE := h.task hi
  have h1 : k ≠ e.g := blk_types hk hE.cell fun e => hT (.inr (.inl e))
  have h2 : some k ≠ e.vq.ownBlock := fun hh => by
    obtain ⟨cur, hc⟩ := own_block hE.rq hh
    exact blk_types hk hc (fun e => hT (.inr (.inr (.inr e)))) rfl
  have h3 := (hWa.block k (blk_lt hk) h1).trans hk
  exact (Below.heap_setCell _ _ _ k h1).trans (blk_grown (blk_below h3 hb) hg h2)
def BdL (n : Nat) (L : List S36) : Prop := L.length ≤ n ∧ ∀ l ∈ L, l.f1.length ≤ n ∧ l.f2.length ≤ n
theorem BdL.mono {n m : Nat} {L : List S36} (h : BdL n L) (hm : n ≤ m) : BdL m L := ⟨Nat.le_trans h.1 hm, fun l hl => ⟨Nat.le_trans (h.2 l hl).1 hm, Nat.le_trans (h.2 l hl).2 hm⟩⟩
theorem BdL.put {n : Nat} {L : List S36} (h : BdL n L) (x : S47) : BdL (n + 1) (putL L x) := by
  have h1 : BdL (n + 1) (ensL L x.f4) ∧ ∀ l ∈ ensL L x.f4, l.f1.length ≤ n ∧ l.f2.length ≤ n := by
    unfold ensL
    split
    · exact ⟨h.mono (by omega), h.2⟩
    · refine ⟨⟨by rw [List.length_append]; simp only [List.length_singleton]; have := h.1; omega, fun l hl => ?_⟩, fun l hl => ?_⟩
      all_goals
        rcases List.mem_append.1 hl with hl | hl
        · have := h.2 l hl; omega
        · rw [List.mem_singleton] at hl; subst hl; simp
  unfold putL modL
  refine ⟨by rw [List.length_map]; exact h1.1.1, fun l hl => ?_⟩
  obtain ⟨a, ha, rfl⟩ := List.mem_map.1 hl
  have := h1.2 a ha
  split
  · unfold addL; simp only [List.length_append, List.length_singleton]; omega
  · omega
theorem BdL.foldl {n : Nat} (o : List S47) : ∀ {L : List S36}, BdL n L → BdL (n + o.length) (o.foldl putL L) := by
  induction o generalizing n with
  | nil => exact fun h => h
  | cons x o ih =>
    intro L h
    have := ih (h.put x)
    rw [List.foldl_cons, List.length_cons]
    exact this.mono (by omega)
end Go.Proofs.Ytmnglonjekegcaa.Vw
