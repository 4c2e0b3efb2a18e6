/- Plain laws: what was laid down is read as it was; with a byte more, or less, it is refused. -/
import Derived.Test.YtedbgkbjbfdnlaaRcTeP
namespace Go.Proofs.Ytedbgkbjbfdnlaa.Rc
open Go Go.RowKit Go.Proofs.Ytedbgkbjbfdnlaa.Pk
set_option linter.unusedVariables false
set_option linter.unusedSimpArgs false
theorem rec3_enc {a b c : Int} (ha : I64 a) (hb : I64 b) (hc : I64 c) (s : List Int) : rec3 (recB a b c ++ s) = ((a, b, c), 0, s) := by
  unfold rec3 recB
  simp only [List.append_assoc, rdU_uenc ha.1 ha.2, rdU_uenc hb.1 hb.2, rdU_uenc hc.1 hc.2, sgn_uns]
  simp
theorem toRec_back {xs : List Int} (hb : Byt xs) (h : (toRec xs).2.2.2 = 0) : recB (toRec xs).1 (toRec xs).2.1 (toRec xs).2.2.1 = xs ∧ I64 (toRec xs).1 ∧ I64 (toRec xs).2.1 ∧ I64 (toRec xs).2.2.1 := by
  unfold toRec at h ⊢
  by_cases h1 : (rec3 xs).2.1 ≠ 0
  · rw [if_pos h1] at h; exact absurd h h1
  rw [if_neg h1] at h ⊢
  by_cases h2 : timeOk (rec3 xs).1.2.2 = false
  · rw [if_pos h2] at h; exact absurd h (by simp)
  rw [if_neg h2] at h ⊢
  by_cases h3 : (rec3 xs).2.2.length ≠ 0
  · rw [if_pos h3] at h; exact absurd h (by simp)
  rw [if_neg h3]
  obtain ⟨g0, g1, g2⟩ := rec3_is hb (by simpa using h1)
  have he : (rec3 xs).2.2 = [] := List.length_eq_zero_iff.1 (by simpa using h3)
  rw [he, List.append_nil] at g0
  exact ⟨g0.symm, g2⟩
theorem toRec_enc {a b c : Int} (ha : I64 a) (hb : I64 b) (hc : I64 c) (s : List Int) : toRec (recB a b c ++ s) = if timeOk c = false then (0, 0, 0, 2) else if s.length ≠ 0 then (0, 0, 0, 5) else (a, b, c, 0) := by
  unfold toRec
  rw [rec3_enc ha hb hc]
  simp
theorem toRec_enc0 {a b c : Int} (ha : I64 a) (hb : I64 b) (hc : I64 c) : toRec (recB a b c) = if timeOk c = false then (0, 0, 0, 2) else (a, b, c, 0) := by
  have := toRec_enc ha hb hc []
  rw [List.append_nil] at this
  rw [this]
  simp
theorem toRec_more {a b c : Int} (ha : I64 a) (hb : I64 b) (hc : I64 c) (x : Int) : (toRec (recB a b c ++ [x])).2.2.2 ≠ 0 := by
  rw [toRec_enc ha hb hc]
  split
  · simp
  · simp
theorem take_last {l : List Int} (h : 0 < l.length) : ∃ x, l = l.take (l.length - 1) ++ [x] := by
  have hne : l ≠ [] := by intro e; rw [e] at h; exact Nat.lt_irrefl 0 h
  refine ⟨l.getLast hne, ?_⟩
  rw [← List.dropLast_eq_take, List.dropLast_concat_getLast]
theorem byt_take {l : List Int} (h : Byt l) (n : Nat) : Byt (l.take n) := fun x hx => h x (List.mem_of_mem_take hx)
theorem recB_byt (a b c : Int) : Byt (recB a b c) := by
  unfold recB
  intro x hx
  simp only [List.mem_append] at hx
  rcases hx with h | h | h
  · exact enc_byt _ x h
  · exact enc_byt _ x h
  · exact enc_byt _ x h
theorem recB_pos (a b c : Int) : 3 ≤ (recB a b c).length := by
  unfold recB
  have h1 := enc_pos (uns a)
  have h2 := enc_pos (uns b)
  have h3 := enc_pos (uns c)
  simp only [List.length_append]
  omega
theorem toRec_less {a b c : Int} (ha : I64 a) (hb : I64 b) (hc : I64 c) : (toRec ((recB a b c).take ((recB a b c).length - 1))).2.2.2 ≠ 0 := by
  intro h
  obtain ⟨x, hx⟩ := take_last (l := recB a b c) (by have := recB_pos a b c; omega)
  generalize hl : (recB a b c).take ((recB a b c).length - 1) = l at h hx
  have hbt : Byt l := hl ▸ byt_take (recB_byt a b c) _
  obtain ⟨g0, g1, g2, g3⟩ := toRec_back hbt h
  have e1 := rec3_enc g1 g2 g3 [x]
  rw [g0, ← hx] at e1
  have e2 := rec3_enc ha hb hc []
  rw [List.append_nil, e1] at e2
  have := congrArg (fun q => q.2.2) e2
  simp at this
theorem nums5_enc : ∀ (l s : List Int), (∀ n ∈ l, 0 ≤ n ∧ n ≤ 1048576) → nums5 l.length (Pk.encs l ++ s) = (l, 0, s) := by
  intro l
  induction l with
  | nil => intro s _; rfl
  | cons n l ih =>
    intro s h
    have hn := h n (List.mem_cons_self ..)
    rw [List.length_cons, nums5, encs_cons, List.append_assoc, rdU_enc hn.1 (by omega), if_neg (by simp), ih s (fun m hm => h m (List.mem_cons_of_mem _ hm))]
    simp only [cap, if_pos (show n ≤ 1048577 by omega)]
theorem toEnt_enc {x : Ent} (hm : may x = true) (hw : entWf x) (s : List Int) : toEnt (entB x ++ s) = if s.length ≠ 0 then (zeroE, 5) else (x, 0) := by
  have hq := hm
  unfold may may0 num at hq
  simp only [Bool.and_eq_true, decide_eq_true_eq, List.all_eq_true] at hq
  obtain ⟨⟨⟨⟨⟨⟨⟨⟨k1, k2⟩, ⟨⟨⟨t1, t2⟩, t3⟩, t4⟩⟩, o9⟩, o10⟩, tm⟩, l9⟩, l10⟩, _⟩ := hq
  have hd : (if x.del = true then (1 : Int) else 0) = 0 ∨ (if x.del = true then (1 : Int) else 0) = 1 := by cases x.del <;> simp
  have e5 := nums5_enc [x.kind, x.task, x.epoch, x.txn, x.log] (tailB x ++ s) (by
    intro n hn
    simp only [List.mem_cons, List.not_mem_nil, or_false] at hn
    rcases hn with rfl | rfl | rfl | rfl | rfl <;> omega)
  have hw9 : ∀ n ∈ x.offs, -2147483648 ≤ n ∧ n ≤ 2147483647 := fun n hn => by have := o9 n hn; omega
  have hw10 : ∀ n ∈ x.order, -2147483648 ≤ n ∧ n ≤ 2147483647 := fun n hn => by have := o10 n hn; omega
  simp only [List.length_cons, List.length_nil] at e5
  unfold toEnt entB
  rw [List.append_assoc, e5]
  simp only
  unfold tailB
  rw [List.append_assoc, rec3_enc hw.2.1.1 hw.2.1.2.1 hw.2.1.2.2]
  simp only
  rw [List.append_assoc, rdU_enc (by omega) (by omega)]
  simp only [List.append_assoc]
  rw [rdL_enc hw9 (by omega) (by omega)]
  simp only
  rw [rdL_enc hw10 (by omega) (by omega)]
  simp only [ne_eq, not_true_eq_false, if_false, List.getD_cons_zero, List.getD_cons_succ]
  have hdel : ((if x.del = true then (1 : Int) else 0) == 1) = x.del := by cases x.del <;> simp
  rw [hdel]
  show (if ¬ s.length = 0 ∨ 1 < (if x.del = true then (1 : Int) else 0) ∨ may x = false then (zeroE, 5) else (x, 0)) = _
  by_cases hs : s.length = 0
  · rw [if_neg (by rw [hm]; simp; exact ⟨by simpa using hs, by omega⟩), if_neg (by simpa using hs)]
  · rw [if_pos (.inl hs), if_pos hs]
theorem toEnt_enc0 {x : Ent} (hm : may x = true) (hw : entWf x) : toEnt (entB x) = (x, 0) := by
  have := toEnt_enc hm hw []
  rw [List.append_nil] at this
  rw [this]
  simp
theorem toEnt_more {x : Ent} (hm : may x = true) (hw : entWf x) (z : Int) : (toEnt (entB x ++ [z])).2 ≠ 0 := by
  rw [toEnt_enc hm hw]
  simp
theorem entB_pos (x : Ent) : 11 ≤ (entB x).length := by
  unfold entB tailB
  have := recB_pos x.key x.val x.time
  have h1 := enc_pos x.kind
  have h2 := enc_pos x.task
  have h3 := enc_pos x.epoch
  have h4 := enc_pos x.txn
  have h5 := enc_pos x.log
  have h6 := enc_pos (if x.del = true then 1 else 0)
  have h7 := enc_pos (x.offs.length : Int)
  have h8 := enc_pos (x.order.length : Int)
  simp only [Pk.encs, List.flatMap_cons, List.flatMap_nil, List.length_append, List.length_nil]
  omega
theorem entB_byte (x : Ent) : Byt (entB x) := by
  unfold entB tailB recB
  intro y hy
  simp only [List.mem_append] at hy
  rcases hy with h | (h | h | h) | h | (h | h) | h | h
  · exact encs_byt _ y h
  · exact enc_byt _ y h
  · exact enc_byt _ y h
  · exact enc_byt _ y h
  · exact enc_byt _ y h
  · exact enc_byt _ y h
  · exact uenc_byt _ y h
  · exact enc_byt _ y h
  · exact uenc_byt _ y h
theorem toEnt_less {x : Ent} (hm : may x = true) (hw : entWf x) : (toEnt ((entB x).take ((entB x).length - 1))).2 ≠ 0 := by
  intro h
  obtain ⟨z, hz⟩ := take_last (l := entB x) (by have := entB_pos x; omega)
  generalize hl : (entB x).take ((entB x).length - 1) = l at h hz
  have hbt : Byt l := hl ▸ byt_take (entB_byte x) _
  obtain ⟨g0, g1, g2⟩ := toEnt_is hbt h
  have e1 := toEnt_enc g1 g2 [z]
  rw [g0, ← hz, toEnt_enc0 hm hw] at e1
  have := congrArg Prod.snd e1
  simp at this
end Go.Proofs.Ytedbgkbjbfdnlaa.Rc
