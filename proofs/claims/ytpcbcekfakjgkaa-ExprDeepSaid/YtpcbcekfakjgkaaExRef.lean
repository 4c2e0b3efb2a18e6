/- Plain laws of expressions: the document's answer is the program's. -/
import Derived.Test.YtpcbcekfakjgkaaExCnt
import Derived.Test.YtpcbcekfakjgkaaEx8
import Derived.Test.YtpcbcekfakjgkaaEx7
import Derived.Test.YtpcbcekfakjgkaaEx6
namespace Go.Proofs.Ytpcbcekfakjgkaa.Ex
open Go Go.RowKit Go.Proofs.YtpcbcekfakjgkaaW.PrintWords Go.Proofs.YtpcbcekfakjgkaaW.PrintLast Go.Proofs.YtpcbcekfakjgkaaW.PrintMore
set_option linter.unusedVariables false
set_option linter.unusedSimpArgs false
theorem fold_cnt (f : E → Nat) : ∀ (l : List E) (n : Nat), n + cntL f l ≤ 9223372036854775807 → l.foldl (fun (n : Int) x => wrap64 (n + (f x : Int))) (n : Int) = ((n + cntL f l : Nat) : Int) := by
  intro l
  induction l with
  | nil => intro n _; rfl
  | cons x xs ih =>
    intro n h
    unfold cntL at h ⊢
    rw [List.foldl_cons, show wrap64 ((n : Int) + (f x : Int)) = ((n + f x : Nat) : Int) by unfold wrap64; omega, ih (n + f x) (by omega)]
    congr 1
    omega
theorem count_ok : ∀ d : Nat, d ≤ 16 → ∀ e, okB d e = true → Ev (fun k => tidemillref04_Count.f k e.f0 e.f1 e.f2) (cnt d e : Int) := by
  intro d
  induction d with
  | zero => intro _ e h; simp [okB] at h
  | succ d ih =>
    intro hd e h
    have hs := okB_succ h
    have h1 := cnt_le _ _ h
    have h4 : 4 ^ (d + 1) ≤ 4 ^ 16 := Nat.pow_le_pow_right (by omega) hd
    have h5 : (4 : Nat) ^ 16 = 4294967296 := by decide
    have hk := kidsOf_le e.f0
    have := count_ev e (by omega) (fun x => (cnt d x : Int)) (fun x hx => ih (by omega) x (hs.2 x hx))
    have hn : cnt (d + 1) e = 1 + cntL (cnt d) e.f2 := rfl
    rw [show (1 : Int) = ((1 : Nat) : Int) from rfl, fold_cnt (cnt d) e.f2 1 (by omega)] at this
    exact this
/-! ### how deep -/
theorem deep_l0 (d : Nat) (hd : d ≤ 16) (l : List E) (x0 x1 : Int) (hl : l.length ≤ 9223372036854775807) (hf : ∀ x ∈ l, Ev (fun k => tidemillref04_deep.f k x.f0 x.f1 x.f2 (d : Int)) (okB d x)) :
    ∀ (r i : Nat), i + r = l.length → Ev (fun k => tidemillref04_deep.l0 k ((d + 1 : Nat) : Int) (i : Int) x0 x1 l) ((l.drop i).all (okB d)) := by
  intro r
  induction r with
  | zero =>
    intro i hi
    rw [List.drop_of_length_le (by omega)]
    refine Ev.step (f := fun _ => some true) (fun k => ?_) (Ev.now _)
    simp only [tidemillref04_deep.l0]
    rw [if_neg (by omega)]
  | succ r ih =>
    intro i hi
    have hlt : i < l.length := by omega
    rw [drop_rd hlt, List.all_cons]
    refine Ev.step (f := fun k => (tidemillref04_deep.f k (rd_T27 l (i : Int)).f0 (rd_T27 l (i : Int)).f1 (rd_T27 l (i : Int)).f2 (d : Int)).bind fun t => if t = true then tidemillref04_deep.l0 k ((d + 1 : Nat) : Int) ((i + 1 : Nat) : Int) x0 x1 l else some false) (fun k => ?_) ?_
    · simp only [tidemillref04_deep.l0]
      rw [if_pos (by omega), if_pos (by omega), wsucc (by omega), show wrap64 (((d + 1 : Nat) : Int) - 1) = (d : Int) by unfold wrap64; omega]
    · refine Ev.bind (hf _ (rd_mem hlt)) ?_
      cases okB d (rd_T27 l (i : Int)) with
      | false => exact Ev.now _
      | true => exact ih (i + 1) (by omega)
theorem kids_ref (a : Int) : tidemillref04_Kids.f a = some (kidsOf a) := by
  unfold tidemillref04_Kids.f kidsOf
  split
  · rfl
  · split
    · rename_i h1 h2
      rw [if_neg (by omega)]
    · split <;> rfl
theorem deep_ev : ∀ d : Nat, d ≤ 16 → ∀ e, Ev (fun k => tidemillref04_deep.f k e.f0 e.f1 e.f2 (d : Int)) (okB d e) := by
  intro d
  have hj : ∀ (x1 : Int) (a b : Int) (l : List E), Ev (fun k => tidemillref04_deep.j0 k x1 true a b l) false := fun x1 a b l =>
    Ev.step (f := fun _ => some false) (fun k => by simp [tidemillref04_deep.j0]) (Ev.now _)
  induction d with
  | zero =>
    intro _ e
    refine Ev.step (f := fun k => tidemillref04_deep.j0 k 0 true e.f0 e.f1 e.f2) (fun k => ?_) (hj ..)
    simp [tidemillref04_deep.f]
  | succ d ih =>
    intro hd e
    have hne : ¬ ((d + 1 : Nat) : Int) = 0 := by omega
    by_cases hc : (1 ≤ e.f0 ∧ e.f0 ≤ 16) ∧ kidsOf e.f0 = (e.f2.length : Int) ∧ (e.f1 = 0 ∨ e.f0 = 1)
    · have hb : okB (d + 1) e = e.f2.all (okB d) := by
        show (decide _ && e.f2.all (okB d)) = _
        rw [decide_eq_true hc, Bool.true_and]
      rw [hb]
      refine Ev.step (f := fun k => tidemillref04_deep.j0 k ((d + 1 : Nat) : Int) false e.f0 e.f1 e.f2) (fun k => ?_) ?_
      · simp only [tidemillref04_deep.f, kids_ref, Option.bind_some]
        rw [if_neg hne, if_neg (by omega), if_neg (by omega), if_pos hc.2.1.symm]
        by_cases hn : e.f1 = 0
        · rw [if_pos hn]
        · rw [if_neg hn]
          have : e.f0 = 1 := by rcases hc.2.2 with h | h; · exact absurd h hn
                                · exact h
          rw [this]
          rfl
      · refine Ev.step (f := fun k => tidemillref04_deep.l0 k ((d + 1 : Nat) : Int) ((0 : Nat) : Int) e.f0 e.f1 e.f2) (fun k => ?_) ?_
        · simp [tidemillref04_deep.j0]
        · have hk := kidsOf_le e.f0
          have := deep_l0 d (by omega) e.f2 e.f0 e.f1 (by omega) (fun x _ => ih (by omega) x) e.f2.length 0 (by omega)
          rwa [List.drop_zero] at this
    · have hb : okB (d + 1) e = false := by
        show (decide _ && e.f2.all (okB d)) = _
        rw [decide_eq_false hc, Bool.false_and]
      rw [hb]
      refine Ev.step (f := fun k => tidemillref04_deep.j0 k ((d + 1 : Nat) : Int) true e.f0 e.f1 e.f2) (fun k => ?_) (hj ..)
      simp only [tidemillref04_deep.f, kids_ref, Option.bind_some]
      rw [if_neg hne]
      by_cases h1 : e.f0 < 1
      · rw [if_pos h1]
      · rw [if_neg h1]
        by_cases h2 : e.f0 > 16
        · rw [if_pos h2]
        · rw [if_neg h2]
          by_cases h3 : (e.f2.length : Int) = kidsOf e.f0
          · rw [if_pos h3]
            have h4 : ¬ (e.f1 = 0 ∨ e.f0 = 1) := fun h => hc ⟨⟨by omega, by omega⟩, h3.symm, h⟩
            rw [if_neg (fun h => h4 (.inl h))]
            have : (e.f0 != 1) = true := by simp; exact fun h => h4 (.inr h)
            rw [this]
          · rw [if_neg h3]
theorem refMay_ev (e : E) : Ev (fun k => tidemillref04_May.f k e.f0 e.f1 e.f2) (mayB e) := by
  unfold tidemillref04_May.f
  refine Ev.bind (deep_ev 16 (by omega) e) ?_
  rw [mayB_iff]
  cases h : okB 16 e with
  | false => exact Ev.now _
  | true =>
    refine Ev.bind (count_ok 16 (by omega) e h) ?_
    have : decide ((cnt 16 e : Int) ≤ 64) = decide (cnt 16 e ≤ 64) := decide_eq_decide.2 (by omega)
    simp only [this, Bool.true_and]
    exact Ev.now _
/-! ### the value -/
theorem wrap_I64 (a : Int) : I64 (wrap64 a) := by unfold I64 wrap64; omega
theorem tmod_nonpos {a b : Int} (h : a ≤ 0) : a.tmod b ≤ 0 := by
  have h1 := Int.tmod_nonneg b (show 0 ≤ -a by omega)
  rw [Int.neg_tmod] at h1
  omega
theorem twoOf_I64 {op a b n : Int} (ha : I64 a) (hb : I64 b) (h : twoOf op a b = some n) : I64 n := by
  unfold twoOf at h
  repeat' split at h
  all_goals first | (cases h; done) | (injection h with h; subst h)
  all_goals first | exact wrap_I64 _ | (unfold oneOf; split <;> (unfold I64; omega)) | (unfold mn; split <;> assumption) | (unfold mx; split <;> assumption) | skip
  have h1 := Int.tmod_lt_of_pos
  unfold I64 at *
  have h2 : (a.tmod b).natAbs ≤ a.natAbs := by rw [Int.natAbs_tmod]; exact Nat.mod_le _ _
  have h3 : a.tmod b ≤ 9223372036854775807 := by
    by_cases h : a < 0
    · have := tmod_nonpos (a := a) (b := b) (by omega)
      omega
    · omega
  exact ⟨by omega, h3⟩
def res : Option Int → Int × Int
  | some n => (n, 0)
  | none => (0, 10)
theorem mod_ref {a b : Int} (ha : I64 a) (hb : I64 b) (h0 : b ≠ 0) : wrap64 (a - wrap64 (wrap64 (a.tdiv b) * b)) = a.tmod b := by
  have hdm := Int.tmod_add_mul_tdiv a b
  have hmul : b * a.tdiv b = a.tdiv b * b := Int.mul_comm _ _
  have h2 : (a.tmod b).natAbs ≤ a.natAbs := by rw [Int.natAbs_tmod]; exact Nat.mod_le _ _
  unfold I64 at ha hb
  by_cases hs : a = -9223372036854775808 ∧ b = -1
  · obtain ⟨rfl, rfl⟩ := hs
    rw [show Int.tdiv (-9223372036854775808) (-1) = 9223372036854775808 from rfl, show Int.tmod (-9223372036854775808) (-1) = 0 from rfl]
    unfold wrap64
    omega
  · have hq : -9223372036854775808 ≤ a.tdiv b ∧ a.tdiv b ≤ 9223372036854775807 := by
      have h3 : (a.tdiv b).natAbs ≤ a.natAbs := by rw [Int.natAbs_tdiv]; exact Nat.div_le_self _ _
      refine ⟨by omega, ?_⟩
      refine Classical.byContradiction fun hgt => ?_
      have h4 : a = -9223372036854775808 := by omega
      subst h4
      have h5 : (Int.tdiv (-9223372036854775808) b).natAbs = 9223372036854775808 := by omega
      rw [Int.natAbs_tdiv] at h5
      have h6 : b.natAbs = 1 := by
        have h7 : (-9223372036854775808 : Int).natAbs = 9223372036854775808 := by decide
        rw [h7] at h5
        refine Classical.byContradiction fun h8 => ?_
        have h9 : 2 ≤ b.natAbs := by omega
        have h10 := Nat.div_le_div_left h9 (by omega : 0 < 2) (a := 9223372036854775808)
        have h11 : 9223372036854775808 / b.natAbs = 9223372036854775808 := h5
        rw [h11] at h10
        revert h10
        decide
      have h10 : b = 1 ∨ b = -1 := by omega
      rcases h10 with rfl | rfl
      · have : Int.tdiv (-9223372036854775808) 1 = -9223372036854775808 := by decide
        omega
      · exact hs ⟨rfl, rfl⟩
    have e1 : wrap64 (a.tdiv b) = a.tdiv b := by unfold wrap64; omega
    rw [e1]
    have h3 : a.tdiv b * b = a - a.tmod b := by omega
    rw [h3]
    have hsign : (0 ≤ a → 0 ≤ a.tmod b) ∧ (a ≤ 0 → a.tmod b ≤ 0) := ⟨fun h => Int.tmod_nonneg b h, fun h => tmod_nonpos h⟩
    have e2 : wrap64 (a - a.tmod b) = a - a.tmod b := by unfold wrap64; omega
    rw [e2]
    unfold wrap64
    omega
theorem two_ev {op a b : Int} (ho : 6 ≤ op ∧ op ≤ 16 ∧ op ≠ 13 ∧ op ≠ 14) (ha : I64 a) (hb : I64 b) : Ev (fun k => tidemillref04_Two.f k op a b) (res (twoOf op a b)) := by
  have hm := fun h0 => mod_ref ha hb h0
  obtain rfl | rfl | rfl | rfl | rfl | rfl | rfl | rfl | rfl : op = 6 ∨ op = 7 ∨ op = 8 ∨ op = 9 ∨ op = 10 ∨ op = 11 ∨ op = 12 ∨ op = 15 ∨ op = 16 := by omega
  all_goals
    unfold tidemillref04_Two.f
    refine Ev.step (f := fun _ => some (res (twoOf _ a b))) (fun k => ?_) (Ev.now _)
    simp only [tidemillref04_Two.j0]
    unfold twoOf
  · rfl
  · rfl
  · rfl
  · by_cases h : b = 0
    · subst h; rfl
    · have : (b == 0) = false := by simpa using h
      simp [this, h, res]
  · by_cases h : b = 0
    · subst h; rfl
    · have : (b == 0) = false := by simpa using h
      simp [this, h, res, hm h]
  · simp only [tidemillref04_bit.f, oneOf]
    by_cases h : a < b <;> simp [h, res]
  · simp only [tidemillref04_bit.f, oneOf]
    by_cases h : a = b <;> simp [h, res]
  · simp only [mn]
    by_cases h : b < a <;> simp [h, res]
  · simp only [mx]
    by_cases h : a < b <;> simp [h, res]
theorem valOf_I64 {ky vl tm ac : Int} (h1 : I64 ky) (h2 : I64 vl) (h3 : I64 tm) (h4 : I64 ac) : ∀ d e n, fits d e → wfE e → valOf d ky vl tm ac e = some n → I64 n := by
  intro d
  induction d with
  | zero => intro e n hf; exact hf.elim
  | succ d ih =>
    intro e n hf hw h
    have hk := fun i hi => kid_fits hf (i := i) hi
    have ho := hw.out
    have hlk : ∀ i, i < e.f2.length → wfE (kid e i) := fun i hi => ho.2.2.2 _ (by unfold kid; rw [List.getD_eq_getElem?_getD, List.getElem?_eq_getElem hi]; exact List.getElem_mem _)
    unfold valOf at h
    repeat' split at h
    · injection h with h; subst h; exact ho.2.1
    · injection h with h; subst h; exact h1
    · injection h with h; subst h; exact h2
    · injection h with h; subst h; exact h3
    · injection h with h; subst h; exact h4
    · rw [Option.bind_eq_some_iff] at h
      obtain ⟨a, _, h⟩ := h
      injection h with h
      subst h
      exact wrap_I64 _
    · rename_i _ _ _ _ _ _ e13
      have hl : (e.f2.length : Int) = 3 := by rw [hf.2.1, e13]; rfl
      rw [Option.bind_eq_some_iff] at h
      obtain ⟨c, _, h⟩ := h
      split at h
      · exact ih _ _ (hk 2 (by omega)) (hlk 2 (by omega)) h
      · exact ih _ _ (hk 1 (by omega)) (hlk 1 (by omega)) h
    · rename_i n1 n2 n3 n4 n5 n14 n13
      have hl : (e.f2.length : Int) = 2 := by rw [hf.2.1]; unfold kidsOf; rw [if_neg (by have := hf.1; omega), if_neg n13, if_neg n14]
      rw [Option.bind_eq_some_iff] at h
      obtain ⟨a, ha, h⟩ := h
      rw [Option.bind_eq_some_iff] at h
      obtain ⟨b, hb, h⟩ := h
      exact twoOf_I64 (ih _ _ (hk 0 (by omega)) (hlk 0 (by omega)) ha) (ih _ _ (hk 1 (by omega)) (hlk 1 (by omega)) hb) h
theorem value_ev {ky vl tm ac : Int} (h1 : I64 ky) (h2 : I64 vl) (h3 : I64 tm) (h4 : I64 ac) : ∀ d e, fits d e → wfE e → Ev (fun k => tidemillref04_Value.f k e.f0 e.f1 e.f2 ky vl tm ac) (res (valOf d ky vl tm ac e)) := by
  intro d
  induction d with
  | zero => intro e hf; exact hf.elim
  | succ d ih =>
    intro e hf hw
    have hk := fun i hi => kid_fits hf (i := i) hi
    have ho := hw.out
    have hlk : ∀ i, i < e.f2.length → wfE (kid e i) := fun i hi => ho.2.2.2 _ (by unfold kid; rw [List.getD_eq_getElem?_getD, List.getElem?_eq_getElem hi]; exact List.getElem_mem _)
    have hrd : ∀ i : Nat, rd_T27 e.f2 (i : Int) = kid e i := fun i => rfl
    unfold valOf
    by_cases e1 : e.f0 = 1
    · rw [if_pos e1]
      exact Ev.step (f := fun _ => some (e.f1, 0)) (fun k => by simp only [tidemillref04_Value.f]; rw [if_pos e1]) (Ev.now _)
    rw [if_neg e1]
    by_cases e2 : e.f0 = 2
    · rw [if_pos e2]
      exact Ev.step (f := fun _ => some (ky, 0)) (fun k => by simp only [tidemillref04_Value.f]; rw [if_neg e1, if_pos e2]) (Ev.now _)
    rw [if_neg e2]
    by_cases e3 : e.f0 = 3
    · rw [if_pos e3]
      exact Ev.step (f := fun _ => some (vl, 0)) (fun k => by simp only [tidemillref04_Value.f]; rw [if_neg e1, if_neg e2, if_pos e3]) (Ev.now _)
    rw [if_neg e3]
    by_cases e4 : e.f0 = 4
    · rw [if_pos e4]
      exact Ev.step (f := fun _ => some (tm, 0)) (fun k => by simp only [tidemillref04_Value.f]; rw [if_neg e1, if_neg e2, if_neg e3, if_pos e4]) (Ev.now _)
    rw [if_neg e4]
    by_cases e5 : e.f0 = 5
    · rw [if_pos e5]
      exact Ev.step (f := fun _ => some (ac, 0)) (fun k => by simp only [tidemillref04_Value.f]; rw [if_neg e1, if_neg e2, if_neg e3, if_neg e4, if_pos e5]) (Ev.now _)
    rw [if_neg e5]
    have hlen : 0 < e.f2.length := by
      have h6 : 1 ≤ kidsOf e.f0 := by
        unfold kidsOf
        rw [if_neg (by have := hf.1; omega)]
        split
        · omega
        split <;> omega
      have := hf.2.1
      omega
    have hcast : (0 : Int) < (e.f2.length : Int) := by omega
    have v0 := ih _ (hk 0 hlen) (hlk 0 hlen)
    by_cases e14 : e.f0 = 14
    · rw [if_pos e14]
      refine Ev.step (f := fun k => (tidemillref04_Value.f k (kid e 0).f0 (kid e 0).f1 (kid e 0).f2 ky vl tm ac).bind fun bt => if bt.2 = 0 then some (wrap64 (-bt.1), 0) else some (0, bt.2)) (fun k => ?_) ?_
      · simp only [tidemillref04_Value.f]
        rw [if_neg e1, if_neg e2, if_neg e3, if_neg e4, if_neg e5, if_pos hcast, show rd_T27 e.f2 0 = kid e 0 from rfl, e14]
        rfl
      · refine Ev.bind v0 ?_
        cases valOf d ky vl tm ac (kid e 0) with
        | none => exact Ev.now _
        | some a => exact Ev.now _
    rw [if_neg e14]
    by_cases e13 : e.f0 = 13
    · rw [if_pos e13]
      have hl : (e.f2.length : Int) = 3 := by rw [hf.2.1, e13]; rfl
      refine Ev.step (f := fun k => (tidemillref04_Value.f k (kid e 0).f0 (kid e 0).f1 (kid e 0).f2 ky vl tm ac).bind fun bt => if bt.2 = 0 then tidemillref04_Value.j0 k ac bt.1 (bt.1 == 0) e.f0 e.f1 e.f2 ky vl tm else some (0, bt.2)) (fun k => ?_) ?_
      · simp only [tidemillref04_Value.f]
        rw [if_neg e1, if_neg e2, if_neg e3, if_neg e4, if_neg e5, if_pos hcast, show rd_T27 e.f2 0 = kid e 0 from rfl]
        simp only [if_neg e14, if_pos e13]
      · refine Ev.bind v0 ?_
        cases valOf d ky vl tm ac (kid e 0) with
        | none => exact Ev.now _
        | some a =>
          simp only [res, Option.bind_some]
          by_cases ha : a = 0
          · have hab : (a == 0) = true := by simpa using ha
            simp only [hab, if_pos ha, if_true]
            refine Ev.step (f := fun k => (tidemillref04_Value.f k (kid e 2).f0 (kid e 2).f1 (kid e 2).f2 ky vl tm ac).bind fun bt => some (bt.1, bt.2)) (fun k => ?_) ?_
            · simp only [tidemillref04_Value.j0]
              simp only [if_true]
              rw [if_pos (by omega)]
              rfl
            · exact Ev.bind (ih _ (hk 2 (by omega)) (hlk 2 (by omega))) (Ev.now _)
          · have hab : (a == 0) = false := by simpa using ha
            simp only [hab, if_neg ha, if_true]
            refine Ev.step (f := fun k => (tidemillref04_Value.f k (kid e 1).f0 (kid e 1).f1 (kid e 1).f2 ky vl tm ac).bind fun bt => some (bt.1, bt.2)) (fun k => ?_) ?_
            · simp only [tidemillref04_Value.j0]
              rw [if_neg (by simp), if_pos (by omega)]
              simp only [if_pos e13]
              show (Option.bind _ _) = _
              congr 1
              funext bt
              split <;> rfl
            · exact Ev.bind (ih _ (hk 1 (by omega)) (hlk 1 (by omega))) (Ev.now _)
    rw [if_neg e13]
    have hl : (e.f2.length : Int) = 2 := by rw [hf.2.1]; unfold kidsOf; rw [if_neg (by have := hf.1; omega), if_neg e13, if_neg e14]
    refine Ev.step (f := fun k => (tidemillref04_Value.f k (kid e 0).f0 (kid e 0).f1 (kid e 0).f2 ky vl tm ac).bind fun bt => if bt.2 = 0 then tidemillref04_Value.j0 k ac bt.1 false e.f0 e.f1 e.f2 ky vl tm else some (0, bt.2)) (fun k => ?_) ?_
    · simp only [tidemillref04_Value.f]
      rw [if_neg e1, if_neg e2, if_neg e3, if_neg e4, if_neg e5, if_pos hcast, show rd_T27 e.f2 0 = kid e 0 from rfl]
      simp only [if_neg e14, if_neg e13]
    · refine Ev.bind v0 ?_
      cases hv0 : valOf d ky vl tm ac (kid e 0) with
      | none => exact Ev.now _
      | some a =>
        simp only [res, Option.bind_some, if_true]
        refine Ev.step (f := fun k => (tidemillref04_Value.f k (kid e 1).f0 (kid e 1).f1 (kid e 1).f2 ky vl tm ac).bind fun bt => if bt.2 = 0 then (tidemillref04_Two.f k e.f0 a bt.1).bind fun t => some (t.1, t.2) else some (bt.1, bt.2)) (fun k => ?_) ?_
        · simp only [tidemillref04_Value.j0]
          rw [if_neg (by simp), if_pos (by omega)]
          simp only [if_neg e13]
          rfl
        · refine Ev.bind (ih _ (hk 1 (by omega)) (hlk 1 (by omega))) ?_
          cases hv1 : valOf d ky vl tm ac (kid e 1) with
          | none => exact Ev.now _
          | some b =>
            simp only [res, Option.bind_some, if_true]
            exact Ev.bind (two_ev ⟨by have := hf.1; omega, by have := hf.1; omega, e13, e14⟩ (valOf_I64 h1 h2 h3 h4 _ _ _ (hk 0 hlen) (hlk 0 hlen) hv0) (valOf_I64 h1 h2 h3 h4 _ _ _ (hk 1 (by omega)) (hlk 1 (by omega)) hv1)) (Ev.now _)
theorem refEval_ev {ky vl tm ac : Int} (h1 : I64 ky) (h2 : I64 vl) (h3 : I64 tm) (h4 : I64 ac) (e : E) (hw : wfE e) : Ev (fun k => tidemillref04_Eval.f k e.f0 e.f1 e.f2 ky vl tm ac) (evalOf e ky vl tm ac) := by
  unfold tidemillref04_Eval.f evalOf
  refine Ev.bind (refMay_ev e) ?_
  cases h : mayB e with
  | false => exact Ev.now _
  | true =>
    simp only [if_true]
    refine Ev.bind (value_ev h1 h2 h3 h4 16 e (okB_fits _ _ (mayB_ok h)) hw) ?_
    cases valOf 16 ky vl tm ac e with
    | none => exact Ev.now _
    | some n => exact Ev.now _
end Go.Proofs.Ytpcbcekfakjgkaa.Ex
