/- The statement FlowSplits. -/
import Derived.Test.YthkilejcddgodaaFlFew
import Derived.Test.YthkilejcddgodaaEx13
namespace Go.Proofs.Ythkilejcddgodaa.Ex
open Go Go.RowKit Go.Proofs.YthkilejcddgodaaW.PrintWords Go.Proofs.YthkilejcddgodaaW.PrintLast Go.Proofs.YthkilejcddgodaaW.PrintMore Go.Proofs.Ythkilejcddgodaa.Opn
set_option linter.unusedVariables false
set_option linter.unusedSimpArgs false
def Good (l : List Vx) (r : Rc) : Prop := okD l r = true ∧ ∀ j, j < l.length → cnV l j r ≤ 10000
theorem good_left {a b : List Vx} {r : Rc} (h : Good (a ++ b) r) : Good a r := by
  obtain ⟨h0, h1⟩ := h
  rw [ok_app, Bool.and_eq_true] at h0
  refine ⟨h0.1, fun j hj => ?_⟩
  have := h1 j (by rw [List.length_append]; omega)
  rwa [cnV_left a b j r hj] at this
theorem good_right {a b : List Vx} {r : Rc} (h : Good (a ++ b) r) : ∀ y ∈ runD a r, Good b y := by
  obtain ⟨h0, h1⟩ := h
  rw [ok_app, Bool.and_eq_true, List.all_eq_true] at h0
  intro y hy
  refine ⟨h0.2 y hy, fun j hj => ?_⟩
  have := h1 (a.length + j) (by rw [List.length_append]; omega)
  rw [cnV_right] at this
  exact Nat.le_trans (sum_le_of_mem (f := cnV b j) hy) this
theorem chain_ok0 {l : List Vx} {r : Rc} (h : (chainOf l r).2.2 = 0) : okD l r = true := by
  by_cases hg : okD l r = true ∧ ∀ j, j < l.length → cnV l j r ≤ 10000
  · exact hg.1
  · obtain ⟨a, e, he, hne, _⟩ := chain_bad hg
    rw [he] at h
    exact absurd h hne
theorem spl_j1 (all acc : List Rc) (e : Int) (bad : Bool) (ha : all.length ≤ 9223372036854775806) (h : (e = 0 ∧ bad = false ∧ acc = all) ∨ (all = [] ∧ e ≠ 0 ∧ (e = 3 ∨ bad = true))) : Ev (fun k => tidemilllaw17_FlowSplits.j1 k true all e acc bad) true := by
  rcases h with ⟨rfl, rfl, rfl⟩ | ⟨rfl, hne, h⟩
  · refine Ev.step (f := fun k => (tidemillref11_Recs.f k acc acc).bind fun t => some t) (fun k => ?_) (Ev.bind (recs_same _ ha) (Ev.now true))
    simp [tidemilllaw17_FlowSplits.j1]
  · refine Ev.step (f := fun _ => some true) (fun k => ?_) (Ev.now _)
    simp only [tidemilllaw17_FlowSplits.j1]
    by_cases h3 : e = 3
    · simp [h3]
    · have hb : bad = true := by rcases h with h | h; exact absurd h h3; exact h
      simp [h3, hb, hne]
theorem spl_good (m : List Vx) (c : Nat) (hc : c ≤ m.length) (h8 : m.length ≤ 8) (ys : List Rc) (hy : ys.length ≤ 65536) (hg : ∀ y ∈ ys, Good (m.drop c) y) : ∀ (d i : Nat) (acc : List Rc), i + d = ys.length → acc = (ys.take i).flatMap (runD (m.drop c)) → (ys.flatMap (runD (m.drop c))).length ≤ 65536 →
    Ev (fun k => tidemilllaw17_FlowSplits.l0 k true m (c : Int) (ys.flatMap (runD (m.drop c))) 0 ys acc false (i : Int)) true := by
  intro d
  induction d with
  | zero =>
    intro i acc hi ha hl
    refine Ev.step (f := fun k => tidemilllaw17_FlowSplits.j1 k true (ys.flatMap (runD (m.drop c))) 0 acc false) (fun k => ?_) (spl_j1 _ _ _ _ (Nat.le_trans hl (by decide)) (.inl ⟨rfl, rfl, ?_⟩))
    · simp only [tidemilllaw17_FlowSplits.l0]
      rw [if_neg (by omega)]
    · rw [ha, List.take_of_length_le (by omega)]
  | succ d ih =>
    intro i acc hi ha hl
    have hlt : i < ys.length := by omega
    have hy1 := hg _ (List.getElem_mem hlt)
    have hch := chain_good hy1.1 hy1.2
    have hnx := ih (i + 1) (acc ++ runD (m.drop c) ys[i]) (by omega) (by rw [ha, List.take_succ_eq_append_getElem hlt, List.flatMap_append, List.flatMap_cons, List.flatMap_nil, List.append_nil]) hl
    have hal : (acc ++ runD (m.drop c) ys[i]).length ≤ 65536 := by
      have e : ys.flatMap (runD (m.drop c)) = (acc ++ runD (m.drop c) ys[i]) ++ (ys.drop (i + 1)).flatMap (runD (m.drop c)) := by
        conv => lhs; rw [← List.take_append_drop (i + 1) ys, List.flatMap_append, List.take_succ_eq_append_getElem hlt, List.flatMap_append, List.flatMap_cons, List.flatMap_nil, List.append_nil]
        rw [ha]
      rw [e, List.length_append] at hl
      omega
    rw [List.length_append] at hal
    refine Ev.step (f := fun k => (flow_Chain.f k (m.drop c) (ys[i]).f0 (ys[i]).f1 (ys[i]).f2).bind fun bt => if acc.length + bt.1.length < 5864062014805 then tidemilllaw17_FlowSplits.l0 k true m (c : Int) (ys.flatMap (runD (m.drop c))) 0 ys (acc ++ bt.1) (bt.2.2 != 0) ((i + 1 : Nat) : Int) else none) (fun k => ?_) ?_
    · simp only [tidemilllaw17_FlowSplits.l0]
      rw [if_pos (by omega), if_neg (by simp), if_pos (by omega), if_pos (by omega), if_pos (by omega), Int.toNat_natCast, rcd_rd hlt, show wrap64 ((i : Int) + 1) = ((i + 1 : Nat) : Int) by unfold wrap64; omega]
    · refine Ev.bind (chain_ev (by rw [List.length_drop]; omega) _ _ _) ?_
      rw [show (⟨(ys[i]).f0, (ys[i]).f1, (ys[i]).f2⟩ : Rc) = ys[i] from rfl, hch]
      simp only
      rw [show ((0 : Int) != 0) = false from rfl]
      simp only [if_pos (show acc.length + (runD (m.drop c) ys[i]).length < 5864062014805 by omega)]
      exact hnx
theorem spl_bad (m : List Vx) (c : Nat) (hc : c ≤ m.length) (h8 : m.length ≤ 8) (ys : List Rc) (hy : ys.length ≤ 65536) (e : Int) (he : e ≠ 0) : ∀ (d i : Nat) (acc : List Rc) (bad : Bool), i + d = ys.length → acc.length ≤ i * 65536 → (e = 3 ∨ bad = true ∨ ∃ j, i ≤ j ∧ ∃ h : j < ys.length, (chainOf (m.drop c) ys[j]).2.2 ≠ 0) →
    Ev (fun k => tidemilllaw17_FlowSplits.l0 k true m (c : Int) ([] : List Rc) e ys acc bad (i : Int)) true := by
  intro d
  induction d with
  | zero =>
    intro i acc bad hi ha h
    refine Ev.step (f := fun k => tidemilllaw17_FlowSplits.j1 k true ([] : List Rc) e acc bad) (fun k => ?_) (spl_j1 _ _ _ _ (by simp) (.inr ⟨rfl, he, ?_⟩))
    · simp only [tidemilllaw17_FlowSplits.l0]
      rw [if_neg (by omega)]
    · rcases h with h | h | ⟨j, h1, h2, _⟩
      · exact .inl h
      · exact .inr h
      · omega
  | succ d ih =>
    intro i acc bad hi ha h
    have hlt : i < ys.length := by omega
    cases bad with
    | true =>
      refine Ev.step (f := fun k => tidemilllaw17_FlowSplits.j1 k true ([] : List Rc) e acc true) (fun k => ?_) (spl_j1 _ _ _ _ (by simp) (.inr ⟨rfl, he, .inr rfl⟩))
      simp only [tidemilllaw17_FlowSplits.l0]
      rw [if_pos (by omega)]
      rfl
    | false =>
      have hcl := chain_len (l := m.drop c) (by rw [List.length_drop]; omega) ys[i]
      have hnx := ih (i + 1) (acc ++ (chainOf (m.drop c) ys[i]).1) ((chainOf (m.drop c) ys[i]).2.2 != 0) (by omega) (by rw [List.length_append]; omega) (by
        rcases h with h | h | ⟨j, h1, h2, h3⟩
        · exact .inl h
        · cases h
        · by_cases hj : j = i
          · subst hj; exact .inr (.inl (by simpa using h3))
          · exact .inr (.inr ⟨j, by omega, h2, h3⟩))
      refine Ev.step (f := fun k => (flow_Chain.f k (m.drop c) (ys[i]).f0 (ys[i]).f1 (ys[i]).f2).bind fun bt => if acc.length + bt.1.length < 5864062014805 then tidemilllaw17_FlowSplits.l0 k true m (c : Int) ([] : List Rc) e ys (acc ++ bt.1) (bt.2.2 != 0) ((i + 1 : Nat) : Int) else none) (fun k => ?_) ?_
      · simp only [tidemilllaw17_FlowSplits.l0]
        rw [if_pos (by omega), if_neg (by simp), if_pos (by omega), if_pos (by omega), if_pos (by omega), Int.toNat_natCast, rcd_rd hlt, show wrap64 ((i : Int) + 1) = ((i + 1 : Nat) : Int) by unfold wrap64; omega]
      · refine Ev.bind (chain_ev (by rw [List.length_drop]; omega) _ _ _) ?_
        rw [show (⟨(ys[i]).f0, (ys[i]).f1, (ys[i]).f2⟩ : Rc) = ys[i] from rfl]
        simp only [if_pos (show acc.length + (chainOf (m.drop c) ys[i]).1.length < 5864062014805 by omega)]
        exact hnx
theorem splits_pure (l : List Vx) (r : Rc) (u : Int) (hu : 0 ≤ u ∧ u < 256) (hw : ∀ v ∈ l, wfE v.f2) : ∃ k, tidemilllaw17_FlowSplits.f k l r.f0 r.f1 r.f2 u = some true := by
  refine Ev.rounds ?_
  obtain ⟨b, hb⟩ := few_ev l hw
  have h8 : (l.take 8).length ≤ 8 := List.length_take_le _ _
  unfold tidemilllaw17_FlowSplits.f
  refine Ev.bind shown_ev ?_
  refine Ev.bind hb ?_
  generalize l.take 8 = m at h8 ⊢
  cases b with
  | false => simp only [Bool.false_eq_true, if_false]; exact Ev.now _
  | true =>
    have hw1 : wrap64 ((m.length : Int) + 1) = (m.length : Int) + 1 := by unfold wrap64; omega
    have hw2 : wrap64 u = u := by unfold wrap64; omega
    obtain ⟨c, hc, hq⟩ : ∃ c : Nat, c ≤ m.length ∧ Int.tmod u ((m.length : Int) + 1) = (c : Int) := by
      refine ⟨(u % ((m.length : Int) + 1)).toNat, ?_, ?_⟩
      · have := Int.emod_lt_of_pos u (show (0 : Int) < (m.length : Int) + 1 by omega); omega
      · rw [Int.tmod_eq_emod_of_nonneg hu.1, Int.toNat_of_nonneg (Int.emod_nonneg u (by omega))]
    simp only [if_true, hw1, hw2, hq]
    simp only [if_neg (show ¬ (m.length : Int) + 1 = 0 by omega), if_pos (show (0 : Int) ≤ (c : Int) by omega), if_pos (show (c : Int) ≤ (m.length : Int) by omega), Int.toNat_natCast]
    refine Ev.bind (chain_ev h8 r.f0 r.f1 r.f2) ?_
    refine Ev.bind (chain_ev (by rw [List.length_take]; omega) r.f0 r.f1 r.f2) ?_
    rw [show (⟨r.f0, r.f1, r.f2⟩ : Rc) = r from rfl]
    have hmm : m.take c ++ m.drop c = m := List.take_append_drop c m
    by_cases hA : Good (m.take c) r
    · have hAc := chain_good hA.1 hA.2
      have hyl := chain_len (l := m.take c) (by rw [List.length_take]; omega) r
      rw [hAc] at hyl ⊢
      simp only at hyl ⊢
      simp only [if_true]
      by_cases hm : Good m r
      · have hml := chain_len h8 r
        have hmc := chain_good hm.1 hm.2
        rw [hmc] at hml ⊢
        have hrun : runD m r = (runD (m.take c) r).flatMap (runD (m.drop c)) := by conv => lhs; rw [← hmm, run_app]
        simp only [hrun] at hml ⊢
        exact spl_good m c hc h8 (runD (m.take c) r) hyl (good_right (by rw [hmm]; exact hm)) (runD (m.take c) r).length 0 [] (by simp) (by simp) hml
      · obtain ⟨a, e, hch, hne, _, _, h3⟩ := chain_bad hm
        rw [hch]
        refine spl_bad m c hc h8 (runD (m.take c) r) hyl e hne (runD (m.take c) r).length 0 [] false (by simp) (by simp) ?_
        by_cases he : e = 3
        · exact .inl he
        · refine .inr (.inr ?_)
          have hno := h3 he
          rw [← hmm, ok_app, hA.1, Bool.true_and] at hno
          obtain ⟨y, hy, hy2⟩ : ∃ y ∈ runD (m.take c) r, okD (m.drop c) y = false := by
            by_cases hex : ∃ y ∈ runD (m.take c) r, okD (m.drop c) y = false
            · exact hex
            · have : (runD (m.take c) r).all (okD (m.drop c)) = true := by
                rw [List.all_eq_true]
                intro y hy
                cases hv : okD (m.drop c) y with
                | true => rfl
                | false => exact absurd ⟨y, hy, hv⟩ hex
              rw [this] at hno; cases hno
          obtain ⟨j, hj, rfl⟩ := List.getElem_of_mem hy
          exact ⟨j, Nat.zero_le _, hj, fun h0 => by rw [chain_ok0 h0] at hy2; cases hy2⟩
    · have hm : ¬ Good m r := fun h => hA (good_left (b := m.drop c) (by rw [hmm]; exact h))
      obtain ⟨a, e, hch, hne, ha0, ha1, _⟩ := chain_bad hA
      obtain ⟨a2, e2, hch2, hne2, _⟩ := chain_bad hm
      rw [hch, hch2]
      rw [List.length_take, Nat.min_eq_left hc] at ha1
      simp only [if_neg hne, if_neg hne2, List.length_nil]
      simp only [if_true, if_pos (show a ≥ 0 from ha0), if_pos ha1]
      exact Ev.now _
theorem splits_ok (l : List Vx) (r : Rc) (u : Int) (A0 : Option Addr) (c0 : Nat) (w : World) (hr0 : Kd.C k27 w A0 l.length l) (hc0 : l.length ≤ c0) (hw : ∀ v ∈ l, wfE v.f2) (hu : 0 ≤ u ∧ u < 256) :
    Calls Try.prog 6 #[.slice A0 l.length c0, .agg #[.int .i64 r.f0, .int .i64 r.f1, .int .i64 r.f2], .int .u8 u] w fun e_ w' => e_ = .returned (.bool true) ∧ Below w.heap.size w w' := by
  obtain ⟨k, hk⟩ := splits_pure l r u hu hw
  exact tidemilllaw17_FlowSplits.calls k A0 c0 l _ _ _ _ true w hr0 hc0 hk
theorem wfs_u8 {n : Int} (h : (Lit.int .u8 n).wf = true) : 0 ≤ n ∧ n < 256 := by
  simp [Lit.wf, IntKind.min, IntKind.max, IntKind.bits, IntKind.signed] at h
  omega
end Go.Proofs.Ythkilejcddgodaa.Ex
