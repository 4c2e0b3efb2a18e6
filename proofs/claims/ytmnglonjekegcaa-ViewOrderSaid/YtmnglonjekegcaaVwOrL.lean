/- (c11) The body and the openers, for the law's row. -/
import Derived.Test.YtmnglonjekegcaaOpn
import Derived.Test.YtmnglonjekegcaaRp0
import Derived.Test.YtmnglonjekegcaaVwEn
import Derived.Test.YtmnglonjekegcaaVwGr
import Derived.Test.YtmnglonjekegcaaRp7
namespace Go.Proofs.Ytmnglonjekegcaa.Rc
open Go Go.RowKit Go.Proofs.YtmnglonjekegcaaW.PrintWords Go.Proofs.Ytmnglonjekegcaa.Opn Go.Proofs.Ytmnglonjekegcaa.Rp
set_option linter.unusedVariables false
set_option linter.unusedSimpArgs false
def I64 (n : Int) : Prop := -9223372036854775808 ≤ n ∧ n ≤ 9223372036854775807
theorem wf_I64 {n : Int} (h : (Lit.int .i64 n).wf = true) : I64 n := by
  simp [Lit.wf, IntKind.min, IntKind.max, IntKind.bits, IntKind.signed] at h
  unfold I64
  omega
theorem mono_op {H : Type} {enc : TypeId × Value → H} {P : Program} {α : Type} {d : Kd α} {e : TypeId} {G G' : α → DataW H → Prop} (h : Opens enc P d e G) (hg : ∀ a x, G a x → G' a x) : Opens enc P d e G' := by
  intro w base sp held fuel cs x h1
  obtain ⟨a, h1, h2⟩ := h w base sp held fuel cs x h1
  exact ⟨a, h1, hg _ _ h2⟩
def recOk (r : S45) : Prop := I64 r.f0 ∧ I64 r.f1 ∧ I64 r.f2
theorem opens_R {H : Type} {enc : TypeId × Value → H} : Opens enc Try.prog k45 45 (fun r _ => recOk r) := by
  have h := opens_iso (enc := enc) (P := Try.prog) (fun x : S45 => (x.f0, x.f1, x.f2)) (fun a => (⟨a.1, a.2.1, a.2.2⟩ : S45)) (fun _ => rfl)
    (opens_struct (enc := enc) Try.underlying45 rfl (by kernel_rfl) (opensF_cons (off' := 1) rfl (by kernel_rfl) rfl (opens_int Try.underlying2) (opensF_cons (off' := 2) rfl (by kernel_rfl) rfl (opens_int Try.underlying2) (opensF_one rfl (by kernel_rfl) (opens_int Try.underlying2)))))
  refine mono_op h (fun r x hx => ?_)
  obtain ⟨l, _, y, t, _, ⟨_, h1⟩, y2, t2, _, ⟨_, h2⟩, y3, _, ⟨_, h3⟩⟩ := hx
  exact ⟨wf_I64 h1, wf_I64 h2, wf_I64 h3⟩
theorem slice_ints {H : Type} {l : List Int} {x : DataW H} (h : GSlice (GInt .i64) l x) : l.length ≤ maxLen ∧ ∀ n ∈ l, I64 n := by
  obtain ⟨h0, h⟩ := h
  refine ⟨h0, fun n hn => ?_⟩
  rcases h with ⟨rfl, _⟩ | ⟨ds, rest, _, hl, h⟩
  · cases hn
  · obtain ⟨i, hi, rfl⟩ := List.getElem_of_mem hn
    exact wf_I64 (h i _ _ (List.getElem?_eq_getElem hi) (List.getElem?_eq_getElem (by omega))).2
def entOk (v : S47) : Prop := (I64 v.f0 ∧ I64 v.f1 ∧ I64 v.f2 ∧ I64 v.f3 ∧ I64 v.f4) ∧ recOk v.f5 ∧ (v.f7.length ≤ maxLen ∧ ∀ x ∈ v.f7, I64 x) ∧ (v.f8.length ≤ maxLen ∧ ∀ x ∈ v.f8, I64 x)
theorem opens_Ent {H : Type} {enc : TypeId × Value → H} : Opens enc Try.prog k47 47 (fun v _ => entOk v) := by
  have h := opens_iso (enc := enc) (P := Try.prog) (fun x : S47 => (x.f0, x.f1, x.f2, x.f3, x.f4, x.f5, x.f6, x.f7, x.f8)) (fun a => (⟨a.1, a.2.1, a.2.2.1, a.2.2.2.1, a.2.2.2.2.1, a.2.2.2.2.2.1, a.2.2.2.2.2.2.1, a.2.2.2.2.2.2.2.1, a.2.2.2.2.2.2.2.2⟩ : S47)) (fun _ => rfl)
    (opens_struct (enc := enc) Try.underlying47 rfl (by kernel_rfl) (opensF_cons (off' := 1) rfl (by kernel_rfl) rfl (opens_int Try.underlying3) (opensF_cons (off' := 2) rfl (by kernel_rfl) rfl (opens_int Try.underlying3) (opensF_cons (off' := 3) rfl (by kernel_rfl) rfl (opens_int Try.underlying3) (opensF_cons (off' := 4) rfl (by kernel_rfl) rfl (opens_int Try.underlying3) (opensF_cons (off' := 5) rfl (by kernel_rfl) rfl (opens_int Try.underlying3) (opensF_cons (off' := 8) rfl (by kernel_rfl) rfl opens_R (opensF_cons (off' := 9) rfl (by kernel_rfl) rfl (opens_bool Try.underlying4)
      (opensF_cons (off' := 10) rfl (by kernel_rfl) rfl (opens_slice (e' := 3) Try.underlying39 (opens_int Try.underlying3) (by kernel_rfl))
      (opensF_one rfl (by kernel_rfl) (opens_slice (e' := 3) Try.underlying39 (opens_int Try.underlying3) (by kernel_rfl))))))))))))
  refine mono_op h (fun v x hx => ?_)
  obtain ⟨l, _, y, t, _, ⟨_, h1⟩, y2, t2, _, ⟨_, h2⟩, y3, t3, _, ⟨_, h3⟩, y4, t4, _, ⟨_, h4⟩, y5, t5, _, ⟨_, h5⟩, y6, t6, _, h6, y7, t7, _, h7, y8, t8, _, h8, y9, _, h9⟩ := hx
  exact ⟨⟨wf_I64 h1, wf_I64 h2, wf_I64 h3, wf_I64 h4, wf_I64 h5⟩, h6, slice_ints h8, slice_ints h9⟩
end Go.Proofs.Ytmnglonjekegcaa.Rc
namespace Go.Proofs.Ytmnglonjekegcaa.Vw
open Go Go.RowKit Go.Maps Go.Proofs.Ytmnglonjekegcaa.Mk Go.Proofs.Ytmnglonjekegcaa.Rp Go.Proofs.YtmnglonjekegcaaW.PrintWords Go.Proofs.YtmnglonjekegcaaW.PrintLast Go.Proofs.YtmnglonjekegcaaW.PrintMore Go.Proofs.Ytmnglonjekegcaa.Rw Go.Proofs.Ytmnglonjekegcaa.Ow Go.Proofs.Ytmnglonjekegcaa.Mono
set_option linter.unusedVariables false
set_option linter.unusedSimpArgs false
set_option maxRecDepth 100000
/-- append(row, x): the literal row of one entry lies in the block gl. -/
theorem EO.app1 {w0 w W1 : World} {base : Nat} {v : Value} {xs : List S47} (h : EO w0 base w v xs) (hB : Below w0.heap.size w0 w) (hbs : base ≤ w.heap.size) (x : S47) (A9 A10 : Option Addr) (c9 c10 : Nat) (hC9 : Kd.C (Kd.int .i64) w0 A9 x.f7.length x.f7) (hc9 : x.f7.length ≤ c9) (hC10 : Kd.C (Kd.int .i64) w0 A10 x.f8.length x.f8) (hc10 : x.f8.length ≤ c10)
    {gl : Nat} (h1 : Below w.heap.size w W1) (hgl : W1.heap[gl]? = some (.cells (entC x A9 c9 A10 c10).toArray 47 (0, 0))) (hn : xs.length ≤ 1000000) (ty : TypeId) (hty : ty = 22) :
    ∃ v' w', (Builtin.append_ #[22, 22] ty #[v, .slice (some ⟨gl, 0, none⟩) 1 1]).run Try.prog W1 = .ok v' w' ∧ EO w0 base w' v' (xs ++ [x]) ∧ W1.grownBy w' v.ownBlock ∧ Hat v v' W1.heap.size ∧ base ≤ w'.heap.size ∧ (∀ (b : Nat) (wx : World), b ≤ base → Below b wx w → Below b wx w') ∧ (∃ A' c', v' = .slice A' (xs.length + 1) c') := by
  obtain ⟨cs, ho, hr⟩ := h
  have hb1 : base ≤ W1.heap.size := Nat.le_trans hbs h1.size
  obtain ⟨v', w', hrun, h2, h3, h4, h5⟩ := app_one TIE ty hty W1 base xs.length v cs (own_below ho h1) gl 1 (entC x A9 c9 A10 c10) hgl rfl (by simp [entC, Value.oneCell']) hn (by decide) hb1
  refine ⟨v', w', hrun, ⟨cs ++ entC x A9 c9 A10 c10, by rw [List.length_append]; exact h2, ?_⟩, h3, h4, Nat.le_trans hb1 h3.size, fun b wx hb hx => ?_, h5⟩
  · exact hr.snoc (k47_mk w0 x (A9 := A9) (c9 := c9) hc9 hC9 (A10 := A10) (c10 := c10) hc10 hC10) rfl
  · have hx1 : Below b wx W1 := below_on hx (Nat.le_trans hb hbs) h1
    exact hx1.grown h3 (Nat.le_trans hb hb1) fun k hk => Nat.le_trans hb (Ow.own_lt ho k hk).1
/-! ### the last bits of a number -/
theorem bits_small (x : Int) (m : Nat) (hm : m < 1000) : 0 ≤ bits .and .i64 x (m : Int) ∧ bits .and .i64 x (m : Int) ≤ m := by
  unfold bits
  dsimp only
  rw [i64_w, BitVec.toNat_and]
  have h1 : (BitVec.ofInt IntKind.i64.bits (m : Int)).toNat = m := by
    rw [BitVec.toNat_ofInt]
    show ((m : Int) % ((2 ^ 64 : Nat) : Int)).toNat = m
    omega
  rw [h1]
  have h2 : (BitVec.ofInt IntKind.i64.bits x).toNat &&& m ≤ m := Nat.and_le_right
  generalize (BitVec.ofInt IntKind.i64.bits x).toNat &&& m = q at h2 ⊢
  unfold wrap64
  omega
end Go.Proofs.Ytmnglonjekegcaa.Vw
namespace Go.Proofs.Ytmnglonjekegcaa.Vw
open Go Go.RowKit Go.Proofs.Ytmnglonjekegcaa.Rp Go.Proofs.YtmnglonjekegcaaW.PrintWords Go.Proofs.YtmnglonjekegcaaW.PrintLast Go.Proofs.YtmnglonjekegcaaW.PrintMore
set_option linter.unusedVariables false
set_option linter.unusedSimpArgs false
theorem wrap_next {j n : Nat} (h : j < n) (hn : n ≤ 1000000) : wrap64 ((j : Int) + 1) = ((j + 1 : Nat) : Int) := by unfold wrap64; omega
theorem ints_l0 (l : List Int) : ∀ (k j : Nat), j ≤ l.length → l.length - j < k → l.length ≤ 1000000 → tidemillref01_Same.l0 k l l (j : Int) = some true := by
  intro k
  induction k with
  | zero => intro j _ h; omega
  | succ k ih =>
    intro j hj hk hl
    unfold tidemillref01_Same.l0
    by_cases h : (j : Int) < (l.length : Int)
    · rw [if_pos h, if_pos (Int.natCast_nonneg _), if_pos h, if_pos rfl, wrap_next (n := l.length) (by omega) hl]
      exact ih (j + 1) (by omega) (by omega) hl
    · rw [if_neg h]
theorem ints_same (l : List Int) (k : Nat) (hk : l.length < k) (hl : l.length ≤ 1000000) : tidemillref01_Same.f k l l = some true := by
  unfold tidemillref01_Same.f
  rw [if_pos rfl]
  exact ints_l0 l k 0 (Nat.zero_le _) (by omega) hl
theorem tasks_same (x : S41) (k : Nat) (h3 : x.f3.length < k ∧ x.f3.length ≤ 1000000) (h4 : x.f4.length < k ∧ x.f4.length ≤ 1000000) : tidemillref11_TaskSame.f k x.f0 x.f1 x.f2 x.f3 x.f4 x.f5 x.f0 x.f1 x.f2 x.f3 x.f4 x.f5 = some true := by
  unfold tidemillref11_TaskSame.f
  rw [if_pos rfl, if_pos rfl, if_pos rfl, if_pos rfl, ints_same _ _ h3.1 h3.2]
  rw [Option.bind_some, if_pos rfl, ints_same _ _ h4.1 h4.2]
  rfl
theorem logs_l0 (a : Int) (r : List S45) (l : List Bool) : ∀ (k j : Nat), j ≤ l.length → l.length - j < k → l.length ≤ 1000000 → tidemillref11_LogSame.l0 k (j : Int) a r l a r l = some true := by
  intro k
  induction k with
  | zero => intro j _ h; omega
  | succ k ih =>
    intro j hj hk hl
    unfold tidemillref11_LogSame.l0
    by_cases h : (j : Int) < (l.length : Int)
    · rw [if_pos h, if_pos (Int.natCast_nonneg _), if_pos h, if_neg (by simp), wrap_next (n := l.length) (by omega) hl]
      exact ih (j + 1) (by omega) (by omega) hl
    · rw [if_neg h]
theorem logs_same (x : S36) (k : Nat) (h1 : x.f1.length < k ∧ x.f1.length ≤ 100000) (h2 : x.f2.length + 1 < k ∧ x.f2.length ≤ 1000000) : tidemillref11_LogSame.f k x.f0 x.f1 x.f2 x.f0 x.f1 x.f2 = some true := by
  unfold tidemillref11_LogSame.f
  have hr : tidemillref11_Recs.f k x.f1 x.f1 = some true := by
    unfold tidemillref11_Recs.f
    rw [if_pos rfl]
    exact recs_l0 x.f1 k 0 (Nat.zero_le _) (by omega) h1.2
  rw [if_pos rfl, hr]
  rw [Option.bind_some, if_pos rfl]
  obtain ⟨k, rfl⟩ : ∃ m, k = m + 1 := ⟨k - 1, by omega⟩
  rw [tidemillref11_LogSame.j0, if_neg (by simp)]
  exact logs_l0 _ _ _ k 0 (Nat.zero_le _) (by omega) h2.2
theorem rd_getD36 (L : List S36) (j : Nat) (h : j < L.length) : rd_T36 L (j : Int) ∈ L := by
  unfold rd_T36
  rw [Int.toNat_natCast, List.getD_eq_getElem?_getD, List.getElem?_eq_getElem h]
  exact List.getElem_mem h
theorem rd_getD41 (L : List S41) (j : Nat) (h : j < L.length) : rd_T41 L (j : Int) ∈ L := by
  unfold rd_T41
  rw [Int.toNat_natCast, List.getD_eq_getElem?_getD, List.getElem?_eq_getElem h]
  exact List.getElem_mem h
section
variable (L : List S36) (T : List S41) (z : Int) (S : Nat)
theorem same_l1 (hT : ∀ x ∈ T, x.f3.length ≤ S ∧ x.f4.length ≤ S) (hS : S ≤ 1000000) (hl : T.length ≤ 1000000) : ∀ (k j : Nat), j ≤ T.length → T.length - j + S + 2 < k → tidemillref11_Same.l1 k (j : Int) L T z L T z = some true := by
  intro k
  induction k with
  | zero => intro j _ h; omega
  | succ k ih =>
    intro j hj hk
    unfold tidemillref11_Same.l1
    by_cases h : (j : Int) < (T.length : Int)
    · have hm := hT _ (rd_getD41 T j (by omega))
      rw [if_pos h, if_pos (Int.natCast_nonneg _), if_pos h, tasks_same _ k ⟨by omega, by omega⟩ ⟨by omega, by omega⟩]
      rw [Option.bind_some, if_pos rfl, wrap_next (n := T.length) (by omega) hl]
      exact ih (j + 1) (by omega) (by omega)
    · rw [if_neg h]
theorem same_l0 (hL : ∀ x ∈ L, x.f1.length ≤ S ∧ x.f2.length ≤ S) (hT : ∀ x ∈ T, x.f3.length ≤ 1000000 ∧ x.f4.length ≤ 1000000) (hS : S ≤ 100000) (hll : L.length ≤ 1000000) (hl : T.length ≤ 1000000) : ∀ (k j : Nat), j ≤ L.length → L.length - j + T.length + 1000000 + S + 10 < k → tidemillref11_Same.l0 k (j : Int) L T z L T z = some true := by
  intro k
  induction k with
  | zero => intro j _ h; omega
  | succ k ih =>
    intro j hj hk
    unfold tidemillref11_Same.l0
    by_cases h : (j : Int) < (L.length : Int)
    · have hm := hL _ (rd_getD36 L j (by omega))
      rw [if_pos h, if_pos (Int.natCast_nonneg _), if_pos h, logs_same _ k ⟨by omega, by omega⟩ ⟨by omega, by omega⟩]
      rw [Option.bind_some, if_pos rfl, wrap_next (n := L.length) (by omega) hll]
      exact ih (j + 1) (by omega) (by omega)
    · rw [if_neg h]
      exact same_l1 L T z 1000000 hT (Nat.le_refl _) hl k 0 (Nat.zero_le _) (by omega)
theorem same_true (hL : ∀ x ∈ L, x.f1.length ≤ 100000 ∧ x.f2.length ≤ 100000) (hT : ∀ x ∈ T, x.f3.length ≤ 1000000 ∧ x.f4.length ≤ 1000000) (hll : L.length ≤ 1000000) (hl : T.length ≤ 1000000) : tidemillref11_Same.f 4000000 L T z L T z = some true := by
  unfold tidemillref11_Same.f
  rw [if_pos rfl, if_pos rfl]
  obtain ⟨k, hk⟩ : ∃ k, 4000000 = k + 1 := ⟨3999999, rfl⟩
  rw [hk]
  rw [tidemillref11_Same.j0, if_neg (by simp)]
  exact same_l0 L T z 100000 hL hT (Nat.le_refl _) hll hl k 0 (Nat.zero_le _) (by omega)
end
/-! ### how much is told -/
theorem runO_f3 (k : Int) (l : List S47) : ∀ (s : TS) (i : Int), s.t.f3.length ≤ 8 → (runO i s k l).t.f3.length ≤ 8 := by
  induction l with
  | nil => exact fun s i h => h
  | cons x l ih =>
    intro s i h
    rw [runO]
    refine ih _ _ ?_
    split
    · rename_i hx
      unfold stepO
      split
      · split
        · exact h
        · exact h
      · split
        · exact h
        · split
          · exact h
          · split
            · exact (may_nums (tk_of hx.1).1).2.2.2.2.1
            · exact h
    · exact h
theorem through_task (l : List S47) (k : Int) : getT (throughV l).T k = runO 0 (newT k) k l := by
  rw [through_split]
  show getT (goT [] 0 l) k = _
  rw [getT_go]
  rfl
/-- What is told of at most 301 entries is little enough to be compared. -/
theorem told_fits (l : List S47) (hl : l.length ≤ 310) : (∀ x ∈ (readV l).f0, x.f1.length ≤ 100000 ∧ x.f2.length ≤ 100000) ∧ (∀ x ∈ (readV l).f1, x.f3.length ≤ 1000000 ∧ x.f4.length ≤ 1000000) ∧ (readV l).f0.length ≤ 1000000 ∧ (readV l).f1.length ≤ 1000000 := by
  have hI := StInv.through l
  have hsq : l.length * l.length ≤ 310 * 310 := Nat.mul_le_mul hl hl
  refine ⟨fun x hx => ?_, fun x hx => ?_, ?_, ?_⟩
  · have := hI.bl.2 x (told_logs.1 hx)
    omega
  · obtain ⟨s, hs, rfl⟩ := told_tasks.1 hx
    have h4 := (hI.each s hs).2.1
    have h3 : s.t.f3.length ≤ 8 := by
      rw [← getT_in (KInv.through l).ndT hs, through_task]
      exact runO_f3 _ l _ _ (by simp [newT])
    have h5 := Nat.mul_le_mul_right 256 hl
    show s.t.f3.length ≤ _ ∧ s.t.f4.length ≤ _
    omega
  · have e := congrArg List.length (told_keys l)
    rw [List.length_map] at e
    unfold sortI at e
    rw [List.length_mergeSort, List.length_map] at e
    have := hI.bl.1
    omega
  · have e := congrArg List.length (told_keysT l)
    rw [List.length_map] at e
    unfold sortI at e
    rw [List.length_mergeSort, List.length_map] at e
    have := hI.tl
    omega
theorem read_same (l : List S47) (hl : l.length ≤ 310) (z : Int) : tidemillref11_Same.f 4000000 (readV l).f0 (readV l).f1 z (readV l).f0 (readV l).f1 z = some true := by
  obtain ⟨h1, h2, h3, h4⟩ := told_fits l hl
  exact same_true _ _ z h1 h2 h3 h4
end Go.Proofs.Ytmnglonjekegcaa.Vw
namespace Go.Proofs.Ytmnglonjekegcaa.Vw
open Go Go.RowKit Go.Proofs.Ytmnglonjekegcaa.Rp
set_option linter.unusedVariables false
set_option linter.unusedSimpArgs false
/-- The same task but for the places. -/
def TRel (s u : TS) : Prop := s.t = u.t ∧ s.o.map Prod.snd = u.o.map Prod.snd
theorem TRel.refl (s : TS) : TRel s s := ⟨rfl, rfl⟩
theorem TRel.told {s u : TS} (h : TRel s u) : toldT s = toldT u := by
  unfold toldT
  have hl := congrArg List.length h.2
  rw [List.length_map, List.length_map] at hl
  rw [h.1, hl]
theorem TRel.step {s u : TS} (h : TRel s u) (i j : Int) (x : S47) : TRel (stepO i x s) (stepO j x u) := by
  obtain ⟨⟨a, b, c, d, e, f⟩, o⟩ := s
  obtain ⟨t2, o2⟩ := u
  obtain ⟨h1, h2⟩ := h
  dsimp only at h1 h2
  subst h1
  unfold stepO
  dsimp only
  split
  · split
    · exact ⟨rfl, rfl⟩
    · exact ⟨rfl, h2⟩
  · split
    · exact ⟨rfl, h2⟩
    · split
      · refine ⟨rfl, ?_⟩
        show List.map Prod.snd (o ++ [(i, x)]) = List.map Prod.snd (o2 ++ [(j, x)])
        rw [List.map_append, List.map_append, h2]
        rfl
      · split
        · exact ⟨rfl, rfl⟩
        · exact ⟨rfl, rfl⟩
theorem runO_rel (k : Int) (l : List S47) : ∀ (s u : TS) (i j : Int), TRel s u → TRel (runO i s k l) (runO j u k l) := by
  induction l with
  | nil => exact fun s u i j h => h
  | cons x l ih =>
    intro s u i j h
    rw [runO, runO]
    refine ih _ _ _ _ ?_
    split
    · exact h.step i j x
    · exact h
theorem runO_none {k : Int} {l : List S47} (h : ∀ x ∈ l, x.f1 ≠ k) : ∀ (s : TS) (i : Int), runO i s k l = s := by
  induction l with
  | nil => exact fun s i => rfl
  | cons x l ih =>
    intro s i
    rw [runO, if_neg (fun e => h x (by simp) e.2.symm)]
    exact ih (fun y hy => h y (by simp [hy])) s _
theorem putsAt_rel {T T' : List TS} {x : S47} (h : TRel (getT T x.f1) (getT T' x.f1)) (i j : Int) : (putsAt T i x).map Prod.snd = (putsAt T' j x).map Prod.snd := by
  unfold putsAt
  rw [h.1]
  split
  · rfl
  · split
    · exact h.2
    · rfl
/-- What is put depends on the tasks that are named alone. -/
theorem goP_rel {S : Int → Prop} {l : List S47} (hl : ∀ x ∈ l, S x.f1) : ∀ (T T' : List TS) (i j : Int), (∀ k, S k → TRel (getT T k) (getT T' k)) → (goP T i l).map Prod.snd = (goP T' j l).map Prod.snd := by
  induction l with
  | nil => intro T T' i j _; rfl
  | cons x l ih =>
    intro T T' i j h
    rw [goP, goP, List.map_append, List.map_append, putsAt_rel (h _ (hl x (by simp))) i j]
    congr 1
    refine ih (fun y hy => hl y (by simp [hy])) _ _ _ _ fun k hk => ?_
    rw [getT_step, getT_step]
    split
    · exact (h k hk).step i j x
    · exact h k hk
theorem getT_nil (k : Int) : getT [] k = newT k := rfl
theorem puts_apart {l m : List S47} {a b : Int} (hab : a ≠ b) (hl : ∀ x ∈ l, x.f1 = a) (hm : ∀ x ∈ m, x.f1 = b) : (putsV (l ++ m)).map Prod.snd = (putsV l).map Prod.snd ++ (putsV m).map Prod.snd := by
  unfold putsV
  rw [goP_append, List.map_append]
  congr 1
  refine goP_rel (S := fun k => k = b) hm _ _ _ _ fun k hk => ?_
  subst hk
  rw [getT_go, runO_none (fun x hx e => hab ((hl x hx).symm.trans e))]
  exact TRel.refl _
/-- What is put comes from inputs and data. -/
theorem goP_all {Pr : S47 → Prop} (l : List S47) : ∀ (T : List TS) (i : Int), (∀ x ∈ l, x.f0 = 1 ∨ x.f0 = 2 → Pr x) → (∀ k, ∀ p ∈ (getT T k).o, Pr p.2) → ∀ p ∈ goP T i l, Pr p.2 := by
  induction l with
  | nil => intro T i _ _ p hp; cases hp
  | cons x l ih =>
    intro T i hx hT p hp
    rw [goP] at hp
    rcases List.mem_append.1 hp with hp | hp
    · unfold putsAt at hp
      split at hp
      · rename_i h
        rw [List.mem_singleton] at hp
        subst hp
        exact hx x (by simp) (.inl h.2)
      · split at hp
        · exact hT _ p hp
        · cases hp
    · refine ih _ _ (fun y hy => hx y (by simp [hy])) (fun k q hq => ?_) p hp
      rw [getT_step] at hq
      split at hq
      · unfold stepO at hq
        split at hq
        · split at hq
          · cases hq
          · exact hT k q hq
        · split at hq
          · exact hT k q hq
          · split at hq
            · rename_i h2
              rcases List.mem_append.1 hq with hq | hq
              · exact hT k q hq
              · rw [List.mem_singleton] at hq; subst hq; exact hx x (by simp) (.inr h2)
            · split at hq
              · cases hq
              · cases hq
      · exact hT k q hq
theorem putsV_all {Pr : S47 → Prop} {l : List S47} (h : ∀ x ∈ l, x.f0 = 1 ∨ x.f0 = 2 → Pr x) : ∀ x ∈ (putsV l).map Prod.snd, Pr x := by
  intro x hx
  obtain ⟨p, hp, rfl⟩ := List.mem_map.1 hx
  exact goP_all l [] 0 h (fun k p hp => by rw [getT_nil] at hp; cases hp) p hp
theorem key_puts (l : List S47) (k : Int) : k ∈ (throughV l).L.map (·.f0) ↔ ∃ x ∈ (putsV l).map Prod.snd, k = x.f4 := by
  rw [through_split]
  show k ∈ (List.foldl putL [] _).map _ ↔ _
  rw [keys_puts]
  simp
theorem get_puts (l : List S47) (k : Int) : getLV (throughV l).L k = logOf k ((putsV l).map Prod.snd) := by rw [← told_get, told_puts]
theorem key_named (l : List S47) (k : Int) : k ∈ (throughV l).T.map (·.t.f0) ↔ ∃ x ∈ l, tk x = true ∧ k = x.f1 := by
  rw [through_split]
  show k ∈ (goT [] 0 l).map _ ↔ _
  rw [keys_go]
  simp
theorem get_task (l : List S47) (k : Int) : getT (throughV l).T k = runO 0 (newT k) k l := by
  rw [through_split]
  show getT (goT [] 0 l) k = _
  rw [getT_go]
  rfl
theorem logOf_append (k : Int) (l m : List S47) : logOf k (l ++ m) = ⟨k, (logOf k l).f1 ++ (logOf k m).f1, (logOf k l).f2 ++ (logOf k m).f2⟩ := by
  unfold logOf
  simp only [List.filter_append, List.map_append]
theorem logOf_none {k : Int} {l : List S47} (h : ∀ x ∈ l, x.f4 ≠ k) : logOf k l = ⟨k, [], []⟩ := by
  unfold logOf
  rw [List.filter_eq_nil_iff.2 fun x hx => by simpa using fun e => h x hx e.symm]
  rfl
/-- Two tasks' entries, with logs of their own, in either order. -/
theorem order_plain {l m : List S47} (hl : ∀ x ∈ l, x.f1 = 1 ∧ (x.f0 = 1 ∨ x.f0 = 2 → x.f4 < 2)) (hm : ∀ x ∈ m, x.f1 = 2 ∧ (x.f0 = 1 ∨ x.f0 = 2 → 2 ≤ x.f4)) : readV (l ++ m) = readV (m ++ l) := by
  have e1 := puts_apart (a := 1) (b := 2) (by decide) (fun x hx => (hl x hx).1) (fun x hx => (hm x hx).1)
  have e2 := puts_apart (a := 2) (b := 1) (by decide) (fun x hx => (hm x hx).1) (fun x hx => (hl x hx).1)
  have hP := putsV_all (Pr := fun x => x.f4 < 2) fun x hx => (hl x hx).2
  have hQ := putsV_all (Pr := fun x => 2 ≤ x.f4) fun x hx => (hm x hx).2
  refine read_eq (by simp; omega) (fun k => ?_) (fun k => ?_) (fun k => ?_) (fun k => ?_)
  · rw [key_puts, key_puts, e1, e2]
    simp only [List.mem_append]
    constructor
    · rintro ⟨x, h | h, e⟩
      · exact ⟨x, .inr h, e⟩
      · exact ⟨x, .inl h, e⟩
    · rintro ⟨x, h | h, e⟩
      · exact ⟨x, .inr h, e⟩
      · exact ⟨x, .inl h, e⟩
  · rw [get_puts, get_puts, e1, e2, logOf_append, logOf_append]
    by_cases hk : k < 2
    · rw [logOf_none (l := (putsV m).map Prod.snd) (fun x hx e => by have := hQ x hx; omega)]
      simp
    · rw [logOf_none (l := (putsV l).map Prod.snd) (fun x hx e => by have := hP x hx; omega)]
      simp
  · rw [key_named, key_named]
    simp only [List.mem_append]
    constructor
    · rintro ⟨x, h | h, e⟩
      · exact ⟨x, .inr h, e⟩
      · exact ⟨x, .inl h, e⟩
    · rintro ⟨x, h | h, e⟩
      · exact ⟨x, .inr h, e⟩
      · exact ⟨x, .inl h, e⟩
  · refine TRel.told ?_
    rw [get_task, get_task, runO_append, runO_append]
    by_cases h1 : k = 1
    · rw [runO_none (l := m) (fun x hx e => by have := (hm x hx).1; omega), runO_none (l := m) (fun x hx e => by have := (hm x hx).1; omega)]
      exact runO_rel k l _ _ _ _ (TRel.refl _)
    · rw [runO_none (l := l) (fun x hx e => by have := (hl x hx).1; omega), runO_none (l := l) (fun x hx e => by have := (hl x hx).1; omega)]
      exact runO_rel k m _ _ _ _ (TRel.refl _)
end Go.Proofs.Ytmnglonjekegcaa.Vw
namespace Go.Proofs.Ytmnglonjekegcaa.Vw
open Go Go.RowKit Go.Maps Go.Proofs.Ytmnglonjekegcaa.Mk Go.Proofs.Ytmnglonjekegcaa.Rp Go.Proofs.YtmnglonjekegcaaW.PrintWords Go.Proofs.YtmnglonjekegcaaW.PrintLast Go.Proofs.YtmnglonjekegcaaW.PrintMore Go.Proofs.Ytmnglonjekegcaa.Rw Go.Proofs.Ytmnglonjekegcaa.Ow Go.Proofs.Ytmnglonjekegcaa.Mono
set_option linter.unusedVariables false
set_option linter.unusedSimpArgs false
set_option maxRecDepth 100000
set_option maxHeartbeats 4000000 in
theorem order_ok (A A' : Option Addr) (n c n' c' : Nat) (l l' : List S47) (w : World) (hC : Kd.C k47 w A n l) (hnc : n ≤ c) (hC' : Kd.C k47 w A' n' l') (hnc' : n' ≤ c') : Calls Try.prog 7 #[.slice A n c, .slice A' n' c'] w fun e w' => e = .returned (.bool true) ∧ Below w.heap.size w w' := by
  have HC0 := Aside0.mk hC
  have HC0' := Aside0.mk hC'
  clear hC hC'
  go_enter Try.func7, Try.ntmps7
  go_wp2_with fail
  refine (shown_ok w).mono ?_
  rintro e_ w1 ⟨rfl, hb_⟩
  have HC := Aside0.mk (Kd.C_below HC0.out hb_)
  have HC' := Aside0.mk (Kd.C_below HC0'.out hb_)
  have HBW := Aside0.mk hb_
  clear hb_ HC0 HC0'
  go_upto_block 0 with (fail)
  go_cut [6] (fun v_ wc => ∃ (A5 : Option Addr) (m c5 : Nat) (xs : List S47), v_ = .slice A5 m c5 ∧ m ≤ 80 ∧ Aside0 (xs.length = m) ∧ Aside0 (EO w1 w1.heap.size wc (.slice A5 m c5) xs) ∧ Aside0 (∀ x ∈ xs, x.f1 = 1 ∧ (x.f0 = 1 ∨ x.f0 = 2 → x.f4 < 2)) ∧ Aside0 (Below w1.heap.size w1 wc))
  case first =>
    go_wp2_with fail
    go_loopw [6, 8] (fun v_ vi wr => ∃ (i m : Nat) (A5 : Option Addr) (c5 : Nat) (xs : List S47), i ≤ n ∧ i ≤ 80 ∧ vi = .int .i64 (i : Int) ∧ v_ = .slice A5 m c5 ∧ m ≤ i ∧ Aside0 (xs.length = m) ∧ Aside0 (EO w1 w1.heap.size wr (.slice A5 m c5) xs) ∧ Aside0 (∀ x ∈ xs, x.f1 = 1 ∧ (x.f0 = 1 ∨ x.f0 = 2 → x.f4 < 2)) ∧ Aside0 (Below w1.heap.size w1 wr)) (fun _ vi _ => 80 - (intOf vi).toNat)
    case atStart => exact ⟨0, 0, none, 0, [], Nat.zero_le _, Nat.zero_le _, rfl, rfl, Nat.le_refl _, ⟨rfl⟩, ⟨EO.nil _ _ _⟩, ⟨by simp⟩, ⟨Below.refl _ _⟩⟩
    case round =>
      obtain ⟨i, m, A5, c5, xs, hi, hi2, rfl, rfl, hm, HXL, HEO, HP, HB2⟩ := hrel
      by_cases hlt : i < n
      · have h1 : decide ((i : Int) < (n : Int)) = true := by simp; omega
        have h1b : decide (i < n) = true := by simp; omega
        by_cases hl2 : i < 80
        · have h2 : decide ((i : Int) < 80) = true := by simp; omega
          have h2b : decide (i < 80) = true := by simp; omega
          obtain ⟨x, hx⟩ : ∃ x, l[i]? = some x := ⟨_, List.getElem?_eq_getElem (by rw [HC.out.1]; exact hlt)⟩
          obtain ⟨ad, A9, c9, A10, c10, rfl, hcells⟩ := at_T47 HC.out (i : Int) (Int.natCast_nonneg _) (Int.ofNat_lt.2 hlt)
          rw [rd_eq hx] at hcells
          clear hx
          obtain ⟨x0_, x1_, x2_, x3_, x4_, x5_, x6_, x7_, x8_, x9_, x10_, l9, k9, l10, k10⟩ := hcells
          replace x0_ := pw_cell_below HB2.out x0_
          replace x1_ := pw_cell_below HB2.out x1_
          replace x2_ := pw_cell_below HB2.out x2_
          replace x3_ := pw_cell_below HB2.out x3_
          replace x4_ := pw_cell_below HB2.out x4_
          replace x5_ := pw_cell_below HB2.out x5_
          replace x6_ := pw_cell_below HB2.out x6_
          replace x7_ := pw_cell_below HB2.out x7_
          replace x8_ := pw_cell_below HB2.out x8_
          replace x9_ := pw_cell_below HB2.out x9_
          replace x10_ := pw_cell_below HB2.out x10_
          rw [Int.toNat_natCast] at x0_ x1_ x2_ x3_ x4_ x5_ x6_ x7_ x8_ x9_ x10_
          have HK := Aside0.mk (And.intro (And.intro l9 k9) (And.intro l10 k10))
          clear l9 k9 l10 k10
          go_upto_region 8 with fail
          clear x0_ x1_ x2_ x3_ x4_ x5_ x6_ x7_ x8_ x9_ x10_
          have HX := Aside0.mk (heap_alloc_new wr (.cells #[.int .i64 x.f0, .int .i64 x.f1, .int .i64 x.f2, .int .i64 x.f3, .int .i64 x.f4, .int .i64 x.f5.f0, .int .i64 x.f5.f1, .int .i64 x.f5.f2, .bool x.f6, .slice A9 x.f7.length c9, .slice A10 x.f8.length c10] 47))
          have HBR := Aside0.mk (below_alloc (Below.refl wr.heap.size wr) (.cells #[.int .i64 x.f0, .int .i64 x.f1, .int .i64 x.f2, .int .i64 x.f3, .int .i64 x.f4, .int .i64 x.f5.f0, .int .i64 x.f5.f1, .int .i64 x.f5.f2, .bool x.f6, .slice A9 x.f7.length c9, .slice A10 x.f8.length c10] 47))
          generalize wr.alloc (.cells #[.int .i64 x.f0, .int .i64 x.f1, .int .i64 x.f2, .int .i64 x.f3, .int .i64 x.f4, .int .i64 x.f5.f0, .int .i64 x.f5.f1, .int .i64 x.f5.f2, .bool x.f6, .slice A9 x.f7.length c9, .slice A10 x.f8.length c10] 47) = wa at HX HBR ⊢
          obtain ⟨gx, HGX⟩ : ∃ g, Aside0 (wr.heap.size = g) := ⟨_, ⟨rfl⟩⟩
          rw [HGX.out] at HX ⊢
          have HGE : Aside0 (wr.heap.size ≤ gx) := ⟨by rw [HGX.out]; exact Nat.le_refl _⟩
          have z1_ := (blk_cell HX.out 1).trans (rfl : _ = some (.int .i64 x.f1 : Value))
          have f1_ := blk_frozen HX.out 1
          go_upto_region 9 with fail
          clear z1_ f1_
          have hp_ := blk_put HX.out 1 (.int .i64 1) (rfl : _ = (#[.int .i64 x.f0, .int .i64 1, .int .i64 x.f2, .int .i64 x.f3, .int .i64 x.f4, .int .i64 x.f5.f0, .int .i64 x.f5.f1, .int .i64 x.f5.f2, .bool x.f6, .slice A9 x.f7.length c9, .slice A10 x.f8.length c10] : Array Value))
          have hq_ := HBR.out.setCell (p := ⟨gx, 1, none⟩) HGE.out (.int .i64 1)
          replace HBR := Aside0.mk hq_
          replace HX := Aside0.mk hp_
          clear hp_ hq_
          generalize wa.setCell ⟨gx, 1, none⟩ (.int .i64 1) = wb at HBR HX ⊢
          have b0_ := (blk_cell HX.out 0).trans (rfl : _ = some (.int .i64 x.f0 : Value))
          by_cases hk2 : 2 ≤ x.f0
          · have d2_ : decide (x.f0 ≥ 2) = true := by simpa using hk2
            have d2b_ : decide (2 ≤ x.f0) = true := by simpa using hk2
            by_cases hk5 : x.f0 ≤ 5
            · have d5_ : decide (x.f0 ≤ 5) = true := by simpa using hk5
              have HKD := Aside0.mk (And.intro hk2 hk5)
              clear hk2 hk5
              have hbt : 0 ≤ bits .and .i64 x.f4 1 ∧ bits .and .i64 x.f4 1 ≤ 1 := bits_small x.f4 1 (by omega)
              obtain ⟨q, HQ⟩ : ∃ q, Aside0 (bits .and .i64 x.f4 1 = q) := ⟨_, ⟨rfl⟩⟩
              have HQB : Aside0 (0 ≤ q ∧ q ≤ 1) := ⟨by rw [← HQ.out]; exact hbt⟩
              clear hbt
              have b4_ := (blk_cell HX.out 4).trans (rfl : _ = some (.int .i64 x.f4 : Value))
              have f4_ := blk_frozen HX.out 4
              go_upto_region 11 with fail
              clear b4_ f4_ b0_
              rw [HQ.out]
              have hp_ := blk_put HX.out 4 (.int .i64 q) (rfl : _ = (#[.int .i64 x.f0, .int .i64 1, .int .i64 x.f2, .int .i64 x.f3, .int .i64 q, .int .i64 x.f5.f0, .int .i64 x.f5.f1, .int .i64 x.f5.f2, .bool x.f6, .slice A9 x.f7.length c9, .slice A10 x.f8.length c10] : Array Value))
              have hq_ := HBR.out.setCell (p := ⟨gx, 4, none⟩) HGE.out (.int .i64 q)
              replace HBR := Aside0.mk hq_
              replace HX := Aside0.mk hp_
              clear hp_ hq_
              generalize wb.setCell ⟨gx, 4, none⟩ (.int .i64 q) = wc at HBR HX ⊢
              have b0_ := (blk_cell (HX.out) 0).trans (rfl : _ = some (.int .i64 x.f0 : Value))
              have b1_ := (blk_cell (HX.out) 1).trans (rfl : _ = some (.int .i64 1 : Value))
              have b2_ := (blk_cell (HX.out) 2).trans (rfl : _ = some (.int .i64 x.f2 : Value))
              have b3_ := (blk_cell (HX.out) 3).trans (rfl : _ = some (.int .i64 x.f3 : Value))
              have b4_ := (blk_cell (HX.out) 4).trans (rfl : _ = some (.int .i64 q : Value))
              have b5_ := (blk_cell (HX.out) 5).trans (rfl : _ = some (.int .i64 x.f5.f0 : Value))
              have b6_ := (blk_cell (HX.out) 6).trans (rfl : _ = some (.int .i64 x.f5.f1 : Value))
              have b7_ := (blk_cell (HX.out) 7).trans (rfl : _ = some (.int .i64 x.f5.f2 : Value))
              have b8_ := (blk_cell (HX.out) 8).trans (rfl : _ = some (.bool x.f6 : Value))
              have b9_ := (blk_cell (HX.out) 9).trans (rfl : _ = some (.slice A9 x.f7.length c9 : Value))
              have b10_ := (blk_cell (HX.out) 10).trans (rfl : _ = some (.slice A10 x.f8.length c10 : Value))
              obtain ⟨v_, wd, hr_, he_, hg_, hat_, hbs_, hbb_, A6, c6, rfl⟩ := HEO.out.app1 HB2.out HB2.out.size ({ x with f1 := 1, f4 := q } : S47) A9 A10 c9 c10 HK.out.1.2 HK.out.1.1 HK.out.2.2 HK.out.2.1 (below_alloc HBR.out (.cells #[.int .i64 x.f0, .int .i64 1, .int .i64 x.f2, .int .i64 x.f3, .int .i64 q, .int .i64 x.f5.f0, .int .i64 x.f5.f1, .int .i64 x.f5.f2, .bool x.f6, .slice A9 x.f7.length c9, .slice A10 x.f8.length c10] 47)) (heap_alloc_new wc (.cells #[.int .i64 x.f0, .int .i64 1, .int .i64 x.f2, .int .i64 x.f3, .int .i64 q, .int .i64 x.f5.f0, .int .i64 x.f5.f1, .int .i64 x.f5.f2, .bool x.f6, .slice A9 x.f7.length c9, .slice A10 x.f8.length c10] 47)) (by rw [HXL.out]; omega) 22 rfl
              rw [HXL.out] at hr_ he_
              have HR := Aside0.mk hr_
              have HE2 := Aside0.mk he_
              have HB3 := Aside0.mk (hbb_ _ w1 (Nat.le_refl _) HB2.out)
              clear hr_ he_ hg_ hat_ hbs_ hbb_
              go_wp2_with (at_builtin; refine wpList_append_eq _ rfl (.tmp 42) (.tmp 44) 22 22 rfl _ _ rfl rfl HR.out ?_)
              go_roundw
              case rel => exact ⟨i + 1, m + 1, A6, c6, _, by omega, by omega, by go_num, rfl, by omega, ⟨by rw [List.length_append, HXL.out]; rfl⟩, HE2, ⟨fun y hy => (List.mem_append.1 hy).elim (HP.out y) fun hy => by rw [List.mem_singleton] at hy; subst hy; exact ⟨rfl, fun _ => by show q < 2; have := HQB.out; omega⟩⟩, HB3⟩
              case measure => simp [intOf]; omega
            · have d5_ : decide (x.f0 ≤ 5) = false := by simpa using hk5
              clear hk2 hk5
              go_wp2_with fail
              go_roundw
              case rel => exact ⟨i + 1, m, A5, c5, xs, by omega, by omega, by go_num, rfl, by omega, HXL, ⟨HEO.out.below HBR.out⟩, HP, ⟨below_on HB2.out HB2.out.size HBR.out⟩⟩
              case measure => simp [intOf]; omega
          · have d2_ : decide (x.f0 ≥ 2) = false := by simpa using hk2
            have d2b_ : decide (2 ≤ x.f0) = false := by simpa using hk2
            clear hk2
            go_wp2_with fail
            go_roundw
            case rel => exact ⟨i + 1, m, A5, c5, xs, by omega, by omega, by go_num, rfl, by omega, HXL, ⟨HEO.out.below HBR.out⟩, HP, ⟨below_on HB2.out HB2.out.size HBR.out⟩⟩
            case measure => simp [intOf]; omega
        · have h2 : decide ((i : Int) < 80) = false := by simp; omega
          have h2b : decide (i < 80) = false := by simp; omega
          go_wp2_with fail
          go_meet
          case rel => exact ⟨A5, m, c5, xs, rfl, by omega, HXL, HEO, HP, HB2⟩
      · have h1 : decide ((i : Int) < (n : Int)) = false := by simp; omega
        have h1b : decide (i < n) = false := by simp; omega
        go_wp2_with fail
        go_meet
        case rel => exact ⟨A5, m, c5, xs, rfl, by omega, HXL, HEO, HP, HB2⟩
  case rest =>
  obtain ⟨A5, m1, c5, xs, rfl, hm1, HXL, HEO, HP1, HB⟩ := hcut
  rename World => w2
  obtain ⟨B1, d1, e_, hd1, _, hbc⟩ := HEO.out.C HB.out
  rw [HXL.out] at e_ hd1 hbc
  obtain ⟨rfl, rfl⟩ : A5 = B1 ∧ c5 = d1 := by injection e_ with e1 _ e2; exact ⟨e1, e2⟩
  have HXC := Aside0.mk hbc
  clear e_ hd1 hbc HEO
  go_upto_block 2 with (fail)
  go_cut [7] (fun v_ wc => ∃ (A5 : Option Addr) (m c5 : Nat) (xs : List S47), v_ = .slice A5 m c5 ∧ m ≤ 80 ∧ Aside0 (xs.length = m) ∧ Aside0 (EO w1 w2.heap.size wc (.slice A5 m c5) xs) ∧ Aside0 (∀ x ∈ xs, x.f1 = 2 ∧ (x.f0 = 1 ∨ x.f0 = 2 → 2 ≤ x.f4)) ∧ Aside0 (Below w2.heap.size w2 wc))
  case first =>
    go_wp2_with fail
    go_loopw [7, 10] (fun v_ vi wr => ∃ (i m : Nat) (A5 : Option Addr) (c5 : Nat) (xs : List S47), i ≤ n' ∧ i ≤ 80 ∧ vi = .int .i64 (i : Int) ∧ v_ = .slice A5 m c5 ∧ m ≤ i ∧ Aside0 (xs.length = m) ∧ Aside0 (EO w1 w2.heap.size wr (.slice A5 m c5) xs) ∧ Aside0 (∀ x ∈ xs, x.f1 = 2 ∧ (x.f0 = 1 ∨ x.f0 = 2 → 2 ≤ x.f4)) ∧ Aside0 (Below w2.heap.size w2 wr)) (fun _ vi _ => 80 - (intOf vi).toNat)
    case atStart => exact ⟨0, 0, none, 0, [], Nat.zero_le _, Nat.zero_le _, rfl, rfl, Nat.le_refl _, ⟨rfl⟩, ⟨EO.nil _ _ _⟩, ⟨by simp⟩, ⟨Below.refl _ _⟩⟩
    case round =>
      obtain ⟨i, m, A5, c5, xs, hi, hi2, rfl, rfl, hm, HXL, HEO, HP, HB2⟩ := hrel
      by_cases hlt : i < n'
      · have h1 : decide ((i : Int) < (n' : Int)) = true := by simp; omega
        have h1b : decide (i < n') = true := by simp; omega
        by_cases hl2 : i < 80
        · have h2 : decide ((i : Int) < 80) = true := by simp; omega
          have h2b : decide (i < 80) = true := by simp; omega
          obtain ⟨x, hx⟩ : ∃ x, l'[i]? = some x := ⟨_, List.getElem?_eq_getElem (by rw [HC'.out.1]; exact hlt)⟩
          obtain ⟨ad, A9, c9, A10, c10, rfl, hcells⟩ := at_T47 HC'.out (i : Int) (Int.natCast_nonneg _) (Int.ofNat_lt.2 hlt)
          rw [rd_eq hx] at hcells
          clear hx
          obtain ⟨x0_, x1_, x2_, x3_, x4_, x5_, x6_, x7_, x8_, x9_, x10_, l9, k9, l10, k10⟩ := hcells
          replace x0_ := pw_cell_below (below_step HB.out HB2.out) x0_
          replace x1_ := pw_cell_below (below_step HB.out HB2.out) x1_
          replace x2_ := pw_cell_below (below_step HB.out HB2.out) x2_
          replace x3_ := pw_cell_below (below_step HB.out HB2.out) x3_
          replace x4_ := pw_cell_below (below_step HB.out HB2.out) x4_
          replace x5_ := pw_cell_below (below_step HB.out HB2.out) x5_
          replace x6_ := pw_cell_below (below_step HB.out HB2.out) x6_
          replace x7_ := pw_cell_below (below_step HB.out HB2.out) x7_
          replace x8_ := pw_cell_below (below_step HB.out HB2.out) x8_
          replace x9_ := pw_cell_below (below_step HB.out HB2.out) x9_
          replace x10_ := pw_cell_below (below_step HB.out HB2.out) x10_
          rw [Int.toNat_natCast] at x0_ x1_ x2_ x3_ x4_ x5_ x6_ x7_ x8_ x9_ x10_
          have HK := Aside0.mk (And.intro (And.intro l9 k9) (And.intro l10 k10))
          clear l9 k9 l10 k10
          go_upto_region 16 with fail
          clear x0_ x1_ x2_ x3_ x4_ x5_ x6_ x7_ x8_ x9_ x10_
          have HX := Aside0.mk (heap_alloc_new wr (.cells #[.int .i64 x.f0, .int .i64 x.f1, .int .i64 x.f2, .int .i64 x.f3, .int .i64 x.f4, .int .i64 x.f5.f0, .int .i64 x.f5.f1, .int .i64 x.f5.f2, .bool x.f6, .slice A9 x.f7.length c9, .slice A10 x.f8.length c10] 47))
          have HBR := Aside0.mk (below_alloc (Below.refl wr.heap.size wr) (.cells #[.int .i64 x.f0, .int .i64 x.f1, .int .i64 x.f2, .int .i64 x.f3, .int .i64 x.f4, .int .i64 x.f5.f0, .int .i64 x.f5.f1, .int .i64 x.f5.f2, .bool x.f6, .slice A9 x.f7.length c9, .slice A10 x.f8.length c10] 47))
          generalize wr.alloc (.cells #[.int .i64 x.f0, .int .i64 x.f1, .int .i64 x.f2, .int .i64 x.f3, .int .i64 x.f4, .int .i64 x.f5.f0, .int .i64 x.f5.f1, .int .i64 x.f5.f2, .bool x.f6, .slice A9 x.f7.length c9, .slice A10 x.f8.length c10] 47) = wa at HX HBR ⊢
          obtain ⟨gx, HGX⟩ : ∃ g, Aside0 (wr.heap.size = g) := ⟨_, ⟨rfl⟩⟩
          rw [HGX.out] at HX ⊢
          have HGE : Aside0 (wr.heap.size ≤ gx) := ⟨by rw [HGX.out]; exact Nat.le_refl _⟩
          have z1_ := (blk_cell HX.out 1).trans (rfl : _ = some (.int .i64 x.f1 : Value))
          have f1_ := blk_frozen HX.out 1
          go_upto_region 17 with fail
          clear z1_ f1_
          have hp_ := blk_put HX.out 1 (.int .i64 2) (rfl : _ = (#[.int .i64 x.f0, .int .i64 2, .int .i64 x.f2, .int .i64 x.f3, .int .i64 x.f4, .int .i64 x.f5.f0, .int .i64 x.f5.f1, .int .i64 x.f5.f2, .bool x.f6, .slice A9 x.f7.length c9, .slice A10 x.f8.length c10] : Array Value))
          have hq_ := HBR.out.setCell (p := ⟨gx, 1, none⟩) HGE.out (.int .i64 2)
          replace HBR := Aside0.mk hq_
          replace HX := Aside0.mk hp_
          clear hp_ hq_
          generalize wa.setCell ⟨gx, 1, none⟩ (.int .i64 2) = wb at HBR HX ⊢
          have b0_ := (blk_cell HX.out 0).trans (rfl : _ = some (.int .i64 x.f0 : Value))
          by_cases hk2 : 2 ≤ x.f0
          · have d2_ : decide (x.f0 ≥ 2) = true := by simpa using hk2
            have d2b_ : decide (2 ≤ x.f0) = true := by simpa using hk2
            by_cases hk5 : x.f0 ≤ 5
            · have d5_ : decide (x.f0 ≤ 5) = true := by simpa using hk5
              by_cases he2 : x.f0 = 2
              · have e2_ : (x.f0 == 2) = true := by simpa using he2
                clear hk2 hk5
                have HEQ := Aside0.mk he2
                clear he2
                have hbt : 0 ≤ bits .and .i64 x.f4 1 ∧ bits .and .i64 x.f4 1 ≤ 1 := bits_small x.f4 1 (by omega)
                have hw_ : wrap64 (2 + bits .and .i64 x.f4 1) = 2 + bits .and .i64 x.f4 1 := by unfold wrap64; omega
                obtain ⟨q, HQ⟩ : ∃ q, Aside0 (2 + bits .and .i64 x.f4 1 = q) := ⟨_, ⟨rfl⟩⟩
                have HQB : Aside0 (2 ≤ q) := ⟨by rw [← HQ.out]; omega⟩
                clear hbt
                have b4_ := (blk_cell HX.out 4).trans (rfl : _ = some (.int .i64 x.f4 : Value))
                have f4_ := blk_frozen HX.out 4
                go_upto_region 20 with fail
                clear b4_ f4_ b0_
                try rw [hw_]
                rw [HQ.out]
                clear hw_
                have hp_ := blk_put HX.out 4 (.int .i64 q) (rfl : _ = (#[.int .i64 x.f0, .int .i64 2, .int .i64 x.f2, .int .i64 x.f3, .int .i64 q, .int .i64 x.f5.f0, .int .i64 x.f5.f1, .int .i64 x.f5.f2, .bool x.f6, .slice A9 x.f7.length c9, .slice A10 x.f8.length c10] : Array Value))
                have hq_ := HBR.out.setCell (p := ⟨gx, 4, none⟩) HGE.out (.int .i64 q)
                replace HBR := Aside0.mk hq_
                replace HX := Aside0.mk hp_
                clear hp_ hq_
                generalize wb.setCell ⟨gx, 4, none⟩ (.int .i64 q) = wc at HBR HX ⊢
                have b0_ := (blk_cell (HX.out) 0).trans (rfl : _ = some (.int .i64 x.f0 : Value))
                have b1_ := (blk_cell (HX.out) 1).trans (rfl : _ = some (.int .i64 2 : Value))
                have b2_ := (blk_cell (HX.out) 2).trans (rfl : _ = some (.int .i64 x.f2 : Value))
                have b3_ := (blk_cell (HX.out) 3).trans (rfl : _ = some (.int .i64 x.f3 : Value))
                have b4_ := (blk_cell (HX.out) 4).trans (rfl : _ = some (.int .i64 q : Value))
                have b5_ := (blk_cell (HX.out) 5).trans (rfl : _ = some (.int .i64 x.f5.f0 : Value))
                have b6_ := (blk_cell (HX.out) 6).trans (rfl : _ = some (.int .i64 x.f5.f1 : Value))
                have b7_ := (blk_cell (HX.out) 7).trans (rfl : _ = some (.int .i64 x.f5.f2 : Value))
                have b8_ := (blk_cell (HX.out) 8).trans (rfl : _ = some (.bool x.f6 : Value))
                have b9_ := (blk_cell (HX.out) 9).trans (rfl : _ = some (.slice A9 x.f7.length c9 : Value))
                have b10_ := (blk_cell (HX.out) 10).trans (rfl : _ = some (.slice A10 x.f8.length c10 : Value))
                obtain ⟨v_, wd, hr_, he_, hg_, hat_, hbs_, hbb_, A6, c6, rfl⟩ := HEO.out.app1 (below_step HB.out HB2.out) HB2.out.size ({ x with f1 := 2, f4 := q } : S47) A9 A10 c9 c10 HK.out.1.2 HK.out.1.1 HK.out.2.2 HK.out.2.1 (below_alloc HBR.out (.cells #[.int .i64 x.f0, .int .i64 2, .int .i64 x.f2, .int .i64 x.f3, .int .i64 q, .int .i64 x.f5.f0, .int .i64 x.f5.f1, .int .i64 x.f5.f2, .bool x.f6, .slice A9 x.f7.length c9, .slice A10 x.f8.length c10] 47)) (heap_alloc_new wc (.cells #[.int .i64 x.f0, .int .i64 2, .int .i64 x.f2, .int .i64 x.f3, .int .i64 q, .int .i64 x.f5.f0, .int .i64 x.f5.f1, .int .i64 x.f5.f2, .bool x.f6, .slice A9 x.f7.length c9, .slice A10 x.f8.length c10] 47)) (by rw [HXL.out]; omega) 22 rfl
                rw [HXL.out] at hr_ he_
                have HR := Aside0.mk hr_
                have HE2 := Aside0.mk he_
                have HB3 := Aside0.mk (hbb_ _ w2 (Nat.le_refl _) HB2.out)
                clear hr_ he_ hg_ hat_ hbs_ hbb_
                go_wp2_with (at_builtin; refine wpList_append_eq _ rfl (.tmp 77) (.tmp 79) 22 22 rfl _ _ rfl rfl HR.out ?_)
                go_roundw
                case rel => exact ⟨i + 1, m + 1, A6, c6, _, by omega, by omega, by go_num, rfl, by omega, ⟨by rw [List.length_append, HXL.out]; rfl⟩, HE2, ⟨fun y hy => (List.mem_append.1 hy).elim (HP.out y) fun hy => by rw [List.mem_singleton] at hy; subst hy; exact ⟨rfl, fun _ => by show 2 ≤ q; exact HQB.out⟩⟩, HB3⟩
                case measure => simp [intOf]; omega
              · have e2_ : (x.f0 == 2) = false := by simpa using he2
                have HNE := Aside0.mk (And.intro he2 (And.intro hk2 hk5))
                clear hk2 hk5 he2
                go_upto_region 20 with fail
                clear b0_
                have b0_ := (blk_cell (HX.out) 0).trans (rfl : _ = some (.int .i64 x.f0 : Value))
                have b1_ := (blk_cell (HX.out) 1).trans (rfl : _ = some (.int .i64 2 : Value))
                have b2_ := (blk_cell (HX.out) 2).trans (rfl : _ = some (.int .i64 x.f2 : Value))
                have b3_ := (blk_cell (HX.out) 3).trans (rfl : _ = some (.int .i64 x.f3 : Value))
                have b4_ := (blk_cell (HX.out) 4).trans (rfl : _ = some (.int .i64 x.f4 : Value))
                have b5_ := (blk_cell (HX.out) 5).trans (rfl : _ = some (.int .i64 x.f5.f0 : Value))
                have b6_ := (blk_cell (HX.out) 6).trans (rfl : _ = some (.int .i64 x.f5.f1 : Value))
                have b7_ := (blk_cell (HX.out) 7).trans (rfl : _ = some (.int .i64 x.f5.f2 : Value))
                have b8_ := (blk_cell (HX.out) 8).trans (rfl : _ = some (.bool x.f6 : Value))
                have b9_ := (blk_cell (HX.out) 9).trans (rfl : _ = some (.slice A9 x.f7.length c9 : Value))
                have b10_ := (blk_cell (HX.out) 10).trans (rfl : _ = some (.slice A10 x.f8.length c10 : Value))
                obtain ⟨v_, wd, hr_, he_, hg_, hat_, hbs_, hbb_, A6, c6, rfl⟩ := HEO.out.app1 (below_step HB.out HB2.out) HB2.out.size ({ x with f1 := 2 } : S47) A9 A10 c9 c10 HK.out.1.2 HK.out.1.1 HK.out.2.2 HK.out.2.1 (below_alloc HBR.out (.cells #[.int .i64 x.f0, .int .i64 2, .int .i64 x.f2, .int .i64 x.f3, .int .i64 x.f4, .int .i64 x.f5.f0, .int .i64 x.f5.f1, .int .i64 x.f5.f2, .bool x.f6, .slice A9 x.f7.length c9, .slice A10 x.f8.length c10] 47)) (heap_alloc_new wb (.cells #[.int .i64 x.f0, .int .i64 2, .int .i64 x.f2, .int .i64 x.f3, .int .i64 x.f4, .int .i64 x.f5.f0, .int .i64 x.f5.f1, .int .i64 x.f5.f2, .bool x.f6, .slice A9 x.f7.length c9, .slice A10 x.f8.length c10] 47)) (by rw [HXL.out]; omega) 22 rfl
                rw [HXL.out] at hr_ he_
                have HR := Aside0.mk hr_
                have HE2 := Aside0.mk he_
                have HB3 := Aside0.mk (hbb_ _ w2 (Nat.le_refl _) HB2.out)
                clear hr_ he_ hg_ hat_ hbs_ hbb_
                go_wp2_with (at_builtin; refine wpList_append_eq _ rfl (.tmp 77) (.tmp 79) 22 22 rfl _ _ rfl rfl HR.out ?_)
                go_roundw
                case rel => exact ⟨i + 1, m + 1, A6, c6, _, by omega, by omega, by go_num, rfl, by omega, ⟨by rw [List.length_append, HXL.out]; rfl⟩, HE2, ⟨fun y hy => (List.mem_append.1 hy).elim (HP.out y) fun hy => by rw [List.mem_singleton] at hy; subst hy; exact ⟨rfl, fun hh => absurd hh (by show ¬ (x.f0 = 1 ∨ x.f0 = 2); have := HNE.out; omega)⟩⟩, HB3⟩
                case measure => simp [intOf]; omega
            · have d5_ : decide (x.f0 ≤ 5) = false := by simpa using hk5
              clear hk2 hk5
              go_wp2_with fail
              go_roundw
              case rel => exact ⟨i + 1, m, A5, c5, xs, by omega, by omega, by go_num, rfl, by omega, HXL, ⟨HEO.out.below HBR.out⟩, HP, ⟨below_on HB2.out HB2.out.size HBR.out⟩⟩
              case measure => simp [intOf]; omega
          · have d2_ : decide (x.f0 ≥ 2) = false := by simpa using hk2
            have d2b_ : decide (2 ≤ x.f0) = false := by simpa using hk2
            clear hk2
            go_wp2_with fail
            go_roundw
            case rel => exact ⟨i + 1, m, A5, c5, xs, by omega, by omega, by go_num, rfl, by omega, HXL, ⟨HEO.out.below HBR.out⟩, HP, ⟨below_on HB2.out HB2.out.size HBR.out⟩⟩
            case measure => simp [intOf]; omega
        · have h2 : decide ((i : Int) < 80) = false := by simp; omega
          have h2b : decide (i < 80) = false := by simp; omega
          go_wp2_with fail
          go_meet
          case rel => exact ⟨A5, m, c5, xs, rfl, by omega, HXL, HEO, HP, HB2⟩
      · have h1 : decide ((i : Int) < (n' : Int)) = false := by simp; omega
        have h1b : decide (i < n') = false := by simp; omega
        go_wp2_with fail
        go_meet
        case rel => exact ⟨A5, m, c5, xs, rfl, by omega, HXL, HEO, HP, HB2⟩
  case rest =>
  obtain ⟨A6, m2, c6, ys, rfl, hm2, HYL, HEY, HP2, HB2⟩ := hcut
  rename World => w3
  have HBB := Aside0.mk (below_step HB.out HB2.out)
  obtain ⟨B1, d1, e_, hd1, _, hbc⟩ := HEY.out.C HBB.out
  rw [HYL.out] at e_ hd1 hbc
  obtain ⟨rfl, rfl⟩ : A6 = B1 ∧ c6 = d1 := by injection e_ with e1 _ e2; exact ⟨e1, e2⟩
  have HYC := Aside0.mk hbc
  replace HXC := Aside0.mk (Kd.C_below HXC.out HB2.out)
  replace HB := Aside0.mk (below_step HBW.out HBB.out)
  clear e_ hd1 hbc HEY HB2 HBB HBW HC HC'
  have HOR : Aside0 (readV (ys ++ xs) = readV (xs ++ ys)) := ⟨(order_plain HP1.out HP2.out).symm⟩
  clear HP1 HP2
  obtain ⟨v1, wa, hr1_, he1_, hb1_, hs1_, B1, d1, rfl⟩ := (EO.lit w3 w3 (Nat.le_refl w3.heap.size)).app (below_alloc (Below.refl w3.heap.size w3) _) (by simp) A5 m1 c5 HXC.out (by simp; omega) 22 rfl
  simp only [List.length_nil, Nat.zero_add, List.nil_append] at hr1_ he1_
  have hb4 := hb1_ _ w3 (Nat.le_refl _) (below_alloc (Below.refl w3.heap.size w3) _)
  obtain ⟨v2, wb, hr2_, he2_, hb2_, hs2_, B2, d2, rfl⟩ := he1_.app hb4 hs1_ A6 m2 c6 HYC.out (by rw [HXL.out]; omega) 22 rfl
  rw [HXL.out] at hr2_ he2_
  have hb5 := hb2_ _ w3 (Nat.le_refl _) hb4
  obtain ⟨B3, d3, hv2, hbd, hdm, hbc⟩ := he2_.C hb5
  have hln : (xs ++ ys).length = m1 + m2 := by rw [List.length_append, HXL.out, HYL.out]
  have hln2 : (ys ++ xs).length = m1 + m2 := by rw [List.length_append, HXL.out, HYL.out, Nat.add_comm]
  rw [hln] at hbc hbd hv2
  obtain ⟨rfl, rfl⟩ : B2 = B3 ∧ d2 = d3 := by injection hv2 with e1 _ e2; exact ⟨e1, e2⟩
  obtain ⟨v3, we, hr3_, he3_, hb3_, hs3_, B4, d4, rfl⟩ := (EO.lit w3 wb (Nat.le_refl wb.heap.size)).app (below_alloc hb5 _) (by simp) A6 m2 c6 HYC.out (by simp; omega) 22 rfl
  simp only [List.length_nil, Nat.zero_add, List.nil_append] at hr3_ he3_
  have hb6 := hb3_ _ wb (Nat.le_refl _) (below_alloc (Below.refl wb.heap.size wb) _)
  obtain ⟨v5, wf, hr4_, he4_, hb4_, hs4_, B5, d5, rfl⟩ := he3_.app (below_step hb5 hb6) hs3_ A5 m1 c5 HXC.out (by rw [HYL.out]; omega) 22 rfl
  rw [HYL.out] at hr4_ he4_
  have hb7 := hb4_ _ wb (Nat.le_refl _) hb6
  obtain ⟨B6, d6, hv4, hqd, hqm, hqc⟩ := he4_.C (below_step hb5 hb7)
  rw [hln2] at hqc hqd hv4
  rw [show m2 + m1 = m1 + m2 from Nat.add_comm _ _] at hr4_ hv4
  obtain ⟨rfl, rfl⟩ : B5 = B6 ∧ d5 = d6 := by injection hv4 with e1 _ e2; exact ⟨e1, e2⟩
  have HPC := Aside0.mk (And.intro hbd (Kd.C_below hbc hb7))
  have HQC := Aside0.mk (And.intro hqd hqc)
  have HR1 := Aside0.mk hr1_
  have HR2 := Aside0.mk hr2_
  have HR3 := Aside0.mk hr3_
  have HR4 := Aside0.mk hr4_
  replace HB := Aside0.mk (below_step HB.out (below_step hb5 hb7))
  have HLN := Aside0.mk (And.intro hln hln2)
  clear hr1_ he1_ hb1_ hs1_ hr2_ he2_ hb2_ hs2_ hr3_ he3_ hb3_ hs3_ hr4_ he4_ hb4_ hs4_ hb4 hb5 hb6 hb7 hv2 hv4 hbd hdm hbc hqd hqm hqc hln hln2 HXC HYC
  obtain ⟨V, HV⟩ : ∃ V, Aside0 (xs ++ ys = V) := ⟨_, ⟨rfl⟩⟩
  obtain ⟨U, HU⟩ : ∃ U, Aside0 (ys ++ xs = U) := ⟨_, ⟨rfl⟩⟩
  rw [HV.out] at HPC HLN HOR
  rw [HU.out] at HQC HLN HOR
  go_wp2_with (at_builtin; first | refine wpList_append_eq _ rfl (.tmp 81) (.tmp 82) 22 22 rfl _ _ rfl rfl HR1.out ?_ | refine wpList_append_eq _ rfl (.tmp 83) (.tmp 84) 22 22 rfl _ _ rfl rfl HR2.out ?_ | refine wpList_append_eq _ rfl (.tmp 86) (.tmp 87) 22 22 rfl _ _ rfl rfl HR3.out ?_ | refine wpList_append_eq _ rfl (.tmp 88) (.tmp 89) 22 22 rfl _ _ rfl rfl HR4.out ?_)
  clear HR1 HR2 HR3 HR4
  obtain ⟨L, HL⟩ : ∃ x, Aside0 ((readV V).f0 = x) := ⟨_, ⟨rfl⟩⟩
  obtain ⟨T, HT⟩ : ∃ x, Aside0 ((readV V).f1 = x) := ⟨_, ⟨rfl⟩⟩
  refine (read_ok B2 (m1 + m2) d2 V wf HPC.out.2 (by omega) HPC.out.1).mono ?_
  rintro e_ w5 ⟨C1, e1, C2, e2, rfl, hb_, q1_, g1_, q2_, g2_⟩
  rw [HL.out] at q1_ g1_ ⊢
  rw [HT.out] at q2_ g2_ ⊢
  rw [HLN.out.1]
  have HG1 := Aside0.mk (And.intro g1_ q1_)
  have HG2 := Aside0.mk (And.intro g2_ q2_)
  replace HB := Aside0.mk (below_step HB.out hb_)
  replace HQC := Aside0.mk (And.intro HQC.out.1 (Kd.C_below HQC.out.2 hb_))
  clear hb_ q1_ g1_ q2_ g2_ HPC
  go_wp2_with fail
  refine (read_ok B5 (m1 + m2) d5 U w5 HQC.out.2 (by omega) HQC.out.1).mono ?_
  rintro e_ w6 ⟨D1, f1, D2, f2, rfl, hb_, q1_, g1_, q2_, g2_⟩
  rw [HOR.out] at q1_ g1_ q2_ g2_ ⊢
  rw [HL.out] at q1_ g1_ ⊢
  rw [HT.out] at q2_ g2_ ⊢
  rw [HLN.out.2]
  replace HG1 := Aside0.mk (And.intro (Kd.C_below HG1.out.1 hb_) HG1.out.2)
  replace HG2 := Aside0.mk (And.intro (Kd.C_below HG2.out.1 hb_) HG2.out.2)
  have HH1 := Aside0.mk (And.intro g1_ q1_)
  have HH2 := Aside0.mk (And.intro g2_ q2_)
  replace HB := Aside0.mk (below_step HB.out hb_)
  clear hb_ q1_ g1_ q2_ g2_ HQC
  go_wp2_with fail
  refine (tidemillref11_Same.calls 4000000 C1 e1 L C2 e2 T (((m1 + m2 : Nat) : Int)) D1 f1 L D2 f2 T (((m1 + m2 : Nat) : Int)) true w6 HG1.out.1 HG1.out.2 HG2.out.1 HG2.out.2 HH1.out.1 HH1.out.2 HH2.out.1 HH2.out.2 ?_).mono ?_
  · rw [← HL.out, ← HT.out]
    exact read_same V (by rw [HLN.out.1]; omega) _
  rintro e_ w7 ⟨rfl, hb_⟩
  go_wp2_with fail
  go_ret
  exact ⟨rfl, below_step HB.out hb_⟩
end Go.Proofs.Ytmnglonjekegcaa.Vw
namespace Go.Proofs.Ytmnglonjekegcaa.Vw
open Go Go.RowKit Go.Proofs.YtmnglonjekegcaaW.PrintWords Go.Proofs.Ytmnglonjekegcaa.Opn Go.Proofs.Ytmnglonjekegcaa.Rp Go.Proofs.Ytmnglonjekegcaa.Rc
set_option linter.unusedVariables false
set_option linter.unusedSimpArgs false
theorem opens_Es {H : Type} {enc : TypeId × Value → H} : Opens enc Try.prog (Kd.slice 47 k47) 22 (GSlice fun v (_ : DataW H) => entOk v) :=
  opens_slice Try.underlying22 opens_Ent (by kernel_rfl)
end Go.Proofs.Ytmnglonjekegcaa.Vw
