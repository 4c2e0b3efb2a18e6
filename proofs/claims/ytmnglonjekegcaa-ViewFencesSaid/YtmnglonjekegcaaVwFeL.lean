/- (c11) ViewFences: what its row names. -/
import Derived.Test.YtmnglonjekegcaaOpn
import Derived.Test.YtmnglonjekegcaaRp0
import Derived.Test.YtmnglonjekegcaaVwEn
import Derived.Test.YtmnglonjekegcaaVwGr
import Derived.Test.YtmnglonjekegcaaRp7
namespace Go.Proofs.Ytmnglonjekegcaa.Rc
open Go Go.RowKit Go.Proofs.YtmnglonjekegcaaW.PrintWords Go.Proofs.Ytmnglonjekegcaa.Opn Go.Proofs.Ytmnglonjekegcaa.Rp
set_option linter.unusedVariables false
set_option linter.unusedSimpArgs false
def I64 (n : Int) : Prop := -9223372036854775808 ≤ n ∧ n ≤ 9223372036854775807
theorem wf_I64 {n : Int} (h : (Lit.int .i64 n).wf = true) : I64 n := by
  simp [Lit.wf, IntKind.min, IntKind.max, IntKind.bits, IntKind.signed] at h
  unfold I64
  omega
theorem mono_op {H : Type} {enc : TypeId × Value → H} {P : Program} {α : Type} {d : Kd α} {e : TypeId} {G G' : α → DataW H → Prop} (h : Opens enc P d e G) (hg : ∀ a x, G a x → G' a x) : Opens enc P d e G' := by
  intro w base sp held fuel cs x h1
  obtain ⟨a, h1, h2⟩ := h w base sp held fuel cs x h1
  exact ⟨a, h1, hg _ _ h2⟩
def recOk (r : S45) : Prop := I64 r.f0 ∧ I64 r.f1 ∧ I64 r.f2
theorem opens_R {H : Type} {enc : TypeId × Value → H} : Opens enc Try.prog k45 45 (fun r _ => recOk r) := by
  have h := opens_iso (enc := enc) (P := Try.prog) (fun x : S45 => (x.f0, x.f1, x.f2)) (fun a => (⟨a.1, a.2.1, a.2.2⟩ : S45)) (fun _ => rfl)
    (opens_struct (enc := enc) Try.underlying45 rfl (by kernel_rfl) (opensF_cons (off' := 1) rfl (by kernel_rfl) rfl (opens_int Try.underlying2) (opensF_cons (off' := 2) rfl (by kernel_rfl) rfl (opens_int Try.underlying2) (opensF_one rfl (by kernel_rfl) (opens_int Try.underlying2)))))
  refine mono_op h (fun r x hx => ?_)
  obtain ⟨l, _, y, t, _, ⟨_, h1⟩, y2, t2, _, ⟨_, h2⟩, y3, _, ⟨_, h3⟩⟩ := hx
  exact ⟨wf_I64 h1, wf_I64 h2, wf_I64 h3⟩
theorem slice_ints {H : Type} {l : List Int} {x : DataW H} (h : GSlice (GInt .i64) l x) : l.length ≤ maxLen ∧ ∀ n ∈ l, I64 n := by
  obtain ⟨h0, h⟩ := h
  refine ⟨h0, fun n hn => ?_⟩
  rcases h with ⟨rfl, _⟩ | ⟨ds, rest, _, hl, h⟩
  · cases hn
  · obtain ⟨i, hi, rfl⟩ := List.getElem_of_mem hn
    exact wf_I64 (h i _ _ (List.getElem?_eq_getElem hi) (List.getElem?_eq_getElem (by omega))).2
def entOk (v : S47) : Prop := (I64 v.f0 ∧ I64 v.f1 ∧ I64 v.f2 ∧ I64 v.f3 ∧ I64 v.f4) ∧ recOk v.f5 ∧ (v.f7.length ≤ maxLen ∧ ∀ x ∈ v.f7, I64 x) ∧ (v.f8.length ≤ maxLen ∧ ∀ x ∈ v.f8, I64 x)
theorem opens_Ent {H : Type} {enc : TypeId × Value → H} : Opens enc Try.prog k47 47 (fun v _ => entOk v) := by
  have h := opens_iso (enc := enc) (P := Try.prog) (fun x : S47 => (x.f0, x.f1, x.f2, x.f3, x.f4, x.f5, x.f6, x.f7, x.f8)) (fun a => (⟨a.1, a.2.1, a.2.2.1, a.2.2.2.1, a.2.2.2.2.1, a.2.2.2.2.2.1, a.2.2.2.2.2.2.1, a.2.2.2.2.2.2.2.1, a.2.2.2.2.2.2.2.2⟩ : S47)) (fun _ => rfl)
    (opens_struct (enc := enc) Try.underlying47 rfl (by kernel_rfl) (opensF_cons (off' := 1) rfl (by kernel_rfl) rfl (opens_int Try.underlying3) (opensF_cons (off' := 2) rfl (by kernel_rfl) rfl (opens_int Try.underlying3) (opensF_cons (off' := 3) rfl (by kernel_rfl) rfl (opens_int Try.underlying3) (opensF_cons (off' := 4) rfl (by kernel_rfl) rfl (opens_int Try.underlying3) (opensF_cons (off' := 5) rfl (by kernel_rfl) rfl (opens_int Try.underlying3) (opensF_cons (off' := 8) rfl (by kernel_rfl) rfl opens_R (opensF_cons (off' := 9) rfl (by kernel_rfl) rfl (opens_bool Try.underlying4)
      (opensF_cons (off' := 10) rfl (by kernel_rfl) rfl (opens_slice (e' := 3) Try.underlying39 (opens_int Try.underlying3) (by kernel_rfl))
      (opensF_one rfl (by kernel_rfl) (opens_slice (e' := 3) Try.underlying39 (opens_int Try.underlying3) (by kernel_rfl))))))))))))
  refine mono_op h (fun v x hx => ?_)
  obtain ⟨l, _, y, t, _, ⟨_, h1⟩, y2, t2, _, ⟨_, h2⟩, y3, t3, _, ⟨_, h3⟩, y4, t4, _, ⟨_, h4⟩, y5, t5, _, ⟨_, h5⟩, y6, t6, _, h6, y7, t7, _, h7, y8, t8, _, h8, y9, _, h9⟩ := hx
  exact ⟨⟨wf_I64 h1, wf_I64 h2, wf_I64 h3, wf_I64 h4, wf_I64 h5⟩, h6, slice_ints h8, slice_ints h9⟩
end Go.Proofs.Ytmnglonjekegcaa.Rc
namespace Go.Proofs.Ytmnglonjekegcaa.Vw
open Go Go.RowKit Go.Maps Go.Proofs.Ytmnglonjekegcaa.Mk Go.Proofs.Ytmnglonjekegcaa.Rp Go.Proofs.YtmnglonjekegcaaW.PrintWords Go.Proofs.YtmnglonjekegcaaW.PrintLast Go.Proofs.YtmnglonjekegcaaW.PrintMore Go.Proofs.Ytmnglonjekegcaa.Rw Go.Proofs.Ytmnglonjekegcaa.Ow Go.Proofs.Ytmnglonjekegcaa.Mono
set_option linter.unusedVariables false
set_option linter.unusedSimpArgs false
set_option maxRecDepth 100000
/-- append(row, x): the literal row of one entry lies in the block gl. -/
theorem EO.app1 {w0 w W1 : World} {base : Nat} {v : Value} {xs : List S47} (h : EO w0 base w v xs) (hB : Below w0.heap.size w0 w) (hbs : base ≤ w.heap.size) (x : S47) (A9 A10 : Option Addr) (c9 c10 : Nat) (hC9 : Kd.C (Kd.int .i64) w0 A9 x.f7.length x.f7) (hc9 : x.f7.length ≤ c9) (hC10 : Kd.C (Kd.int .i64) w0 A10 x.f8.length x.f8) (hc10 : x.f8.length ≤ c10)
    {gl : Nat} (h1 : Below w.heap.size w W1) (hgl : W1.heap[gl]? = some (.cells (entC x A9 c9 A10 c10).toArray 47 (0, 0))) (hn : xs.length ≤ 1000000) (ty : TypeId) (hty : ty = 22) :
    ∃ v' w', (Builtin.append_ #[22, 22] ty #[v, .slice (some ⟨gl, 0, none⟩) 1 1]).run Try.prog W1 = .ok v' w' ∧ EO w0 base w' v' (xs ++ [x]) ∧ W1.grownBy w' v.ownBlock ∧ Hat v v' W1.heap.size ∧ base ≤ w'.heap.size ∧ (∀ (b : Nat) (wx : World), b ≤ base → Below b wx w → Below b wx w') ∧ (∃ A' c', v' = .slice A' (xs.length + 1) c') := by
  obtain ⟨cs, ho, hr⟩ := h
  have hb1 : base ≤ W1.heap.size := Nat.le_trans hbs h1.size
  obtain ⟨v', w', hrun, h2, h3, h4, h5⟩ := app_one TIE ty hty W1 base xs.length v cs (own_below ho h1) gl 1 (entC x A9 c9 A10 c10) hgl rfl (by simp [entC, Value.oneCell']) hn (by decide) hb1
  refine ⟨v', w', hrun, ⟨cs ++ entC x A9 c9 A10 c10, by rw [List.length_append]; exact h2, ?_⟩, h3, h4, Nat.le_trans hb1 h3.size, fun b wx hb hx => ?_, h5⟩
  · exact hr.snoc (k47_mk w0 x (A9 := A9) (c9 := c9) hc9 hC9 (A10 := A10) (c10 := c10) hc10 hC10) rfl
  · have hx1 : Below b wx W1 := below_on hx (Nat.le_trans hb hbs) h1
    exact hx1.grown h3 (Nat.le_trans hb hb1) fun k hk => Nat.le_trans hb (Ow.own_lt ho k hk).1
theorem EO.keep {w0 w W1 w' : World} {base : Nat} {v : Value} {xs : List S47} (h : EO w0 base w v xs) (h1 : Below w.heap.size w W1) (hg : W1.grownBy w' v.ownBlock) : ∀ (k : Nat) (T : TypeId) (cs : Array Value), T ≠ 47 → W1.heap[k]? = some (.cells cs T (0, 0)) → w'.heap[k]? = some (.cells cs T (0, 0)) := fun k T cs hT hk => blk_grown hk hg fun hh => by
  obtain ⟨ds, ho, _⟩ := h
  obtain ⟨cur, hc⟩ := own_block (own_below ho h1) hh
  exact blk_types hk hc hT rfl
theorem EO.kept {w0 w w' : World} {base : Nat} {v : Value} {xs : List S47} (h : EO w0 base w v xs) (hk : ∀ (j : Nat) (cs : Array Value), w.heap[j]? = some (.cells cs 47 (0, 0)) → w'.heap[j]? = some (.cells cs 47 (0, 0))) : EO w0 base w' v xs := by
  obtain ⟨ds, ho, hr⟩ := h
  exact ⟨ds, own_kept ho fun k e => by
    obtain ⟨cur, hc⟩ := own_block ho e
    rw [hk _ _ hc, hc], hr⟩
theorem C_nil (w : World) : Kd.C (Kd.int .i64) w none 0 [] := ⟨rfl, by simp, fun h => by simp at h⟩
/-! ### the last bits of a number -/
theorem bits_small (x : Int) (m : Nat) (hm : m < 1000) : 0 ≤ bits .and .i64 x (m : Int) ∧ bits .and .i64 x (m : Int) ≤ m := by
  unfold bits
  dsimp only
  rw [i64_w, BitVec.toNat_and]
  have h1 : (BitVec.ofInt IntKind.i64.bits (m : Int)).toNat = m := by
    rw [BitVec.toNat_ofInt]
    show ((m : Int) % ((2 ^ 64 : Nat) : Int)).toNat = m
    omega
  rw [h1]
  have h2 : (BitVec.ofInt IntKind.i64.bits x).toNat &&& m ≤ m := Nat.and_le_right
  generalize (BitVec.ofInt IntKind.i64.bits x).toNat &&& m = q at h2 ⊢
  unfold wrap64
  omega
end Go.Proofs.Ytmnglonjekegcaa.Vw
namespace Go.Proofs.Ytmnglonjekegcaa.Vw
open Go Go.RowKit Go.Proofs.Ytmnglonjekegcaa.Rp Go.Proofs.YtmnglonjekegcaaW.PrintWords Go.Proofs.YtmnglonjekegcaaW.PrintLast Go.Proofs.YtmnglonjekegcaaW.PrintMore
set_option linter.unusedVariables false
set_option linter.unusedSimpArgs false
theorem wrap_next {j n : Nat} (h : j < n) (hn : n ≤ 1000000) : wrap64 ((j : Int) + 1) = ((j + 1 : Nat) : Int) := by unfold wrap64; omega
theorem ints_l0 (l : List Int) : ∀ (k j : Nat), j ≤ l.length → l.length - j < k → l.length ≤ 1000000 → tidemillref01_Same.l0 k l l (j : Int) = some true := by
  intro k
  induction k with
  | zero => intro j _ h; omega
  | succ k ih =>
    intro j hj hk hl
    unfold tidemillref01_Same.l0
    by_cases h : (j : Int) < (l.length : Int)
    · rw [if_pos h, if_pos (Int.natCast_nonneg _), if_pos h, if_pos rfl, wrap_next (n := l.length) (by omega) hl]
      exact ih (j + 1) (by omega) (by omega) hl
    · rw [if_neg h]
theorem ints_same (l : List Int) (k : Nat) (hk : l.length < k) (hl : l.length ≤ 1000000) : tidemillref01_Same.f k l l = some true := by
  unfold tidemillref01_Same.f
  rw [if_pos rfl]
  exact ints_l0 l k 0 (Nat.zero_le _) (by omega) hl
theorem tasks_same (x : S41) (k : Nat) (h3 : x.f3.length < k ∧ x.f3.length ≤ 1000000) (h4 : x.f4.length < k ∧ x.f4.length ≤ 1000000) : tidemillref11_TaskSame.f k x.f0 x.f1 x.f2 x.f3 x.f4 x.f5 x.f0 x.f1 x.f2 x.f3 x.f4 x.f5 = some true := by
  unfold tidemillref11_TaskSame.f
  rw [if_pos rfl, if_pos rfl, if_pos rfl, if_pos rfl, ints_same _ _ h3.1 h3.2]
  rw [Option.bind_some, if_pos rfl, ints_same _ _ h4.1 h4.2]
  rfl
theorem logs_l0 (a : Int) (r : List S45) (l : List Bool) : ∀ (k j : Nat), j ≤ l.length → l.length - j < k → l.length ≤ 1000000 → tidemillref11_LogSame.l0 k (j : Int) a r l a r l = some true := by
  intro k
  induction k with
  | zero => intro j _ h; omega
  | succ k ih =>
    intro j hj hk hl
    unfold tidemillref11_LogSame.l0
    by_cases h : (j : Int) < (l.length : Int)
    · rw [if_pos h, if_pos (Int.natCast_nonneg _), if_pos h, if_neg (by simp), wrap_next (n := l.length) (by omega) hl]
      exact ih (j + 1) (by omega) (by omega) hl
    · rw [if_neg h]
theorem logs_same (x : S36) (k : Nat) (h1 : x.f1.length < k ∧ x.f1.length ≤ 100000) (h2 : x.f2.length + 1 < k ∧ x.f2.length ≤ 1000000) : tidemillref11_LogSame.f k x.f0 x.f1 x.f2 x.f0 x.f1 x.f2 = some true := by
  unfold tidemillref11_LogSame.f
  have hr : tidemillref11_Recs.f k x.f1 x.f1 = some true := by
    unfold tidemillref11_Recs.f
    rw [if_pos rfl]
    exact recs_l0 x.f1 k 0 (Nat.zero_le _) (by omega) h1.2
  rw [if_pos rfl, hr]
  rw [Option.bind_some, if_pos rfl]
  obtain ⟨k, rfl⟩ : ∃ m, k = m + 1 := ⟨k - 1, by omega⟩
  rw [tidemillref11_LogSame.j0, if_neg (by simp)]
  exact logs_l0 _ _ _ k 0 (Nat.zero_le _) (by omega) h2.2
theorem rd_getD36 (L : List S36) (j : Nat) (h : j < L.length) : rd_T36 L (j : Int) ∈ L := by
  unfold rd_T36
  rw [Int.toNat_natCast, List.getD_eq_getElem?_getD, List.getElem?_eq_getElem h]
  exact List.getElem_mem h
theorem rd_getD41 (L : List S41) (j : Nat) (h : j < L.length) : rd_T41 L (j : Int) ∈ L := by
  unfold rd_T41
  rw [Int.toNat_natCast, List.getD_eq_getElem?_getD, List.getElem?_eq_getElem h]
  exact List.getElem_mem h
section
variable (L : List S36) (T : List S41) (z : Int) (S : Nat)
theorem same_l1 (hT : ∀ x ∈ T, x.f3.length ≤ S ∧ x.f4.length ≤ S) (hS : S ≤ 1000000) (hl : T.length ≤ 1000000) : ∀ (k j : Nat), j ≤ T.length → T.length - j + S + 2 < k → tidemillref11_Same.l1 k (j : Int) L T z L T z = some true := by
  intro k
  induction k with
  | zero => intro j _ h; omega
  | succ k ih =>
    intro j hj hk
    unfold tidemillref11_Same.l1
    by_cases h : (j : Int) < (T.length : Int)
    · have hm := hT _ (rd_getD41 T j (by omega))
      rw [if_pos h, if_pos (Int.natCast_nonneg _), if_pos h, tasks_same _ k ⟨by omega, by omega⟩ ⟨by omega, by omega⟩]
      rw [Option.bind_some, if_pos rfl, wrap_next (n := T.length) (by omega) hl]
      exact ih (j + 1) (by omega) (by omega)
    · rw [if_neg h]
theorem same_l0 (hL : ∀ x ∈ L, x.f1.length ≤ S ∧ x.f2.length ≤ S) (hT : ∀ x ∈ T, x.f3.length ≤ 1000000 ∧ x.f4.length ≤ 1000000) (hS : S ≤ 100000) (hll : L.length ≤ 1000000) (hl : T.length ≤ 1000000) : ∀ (k j : Nat), j ≤ L.length → L.length - j + T.length + 1000000 + S + 10 < k → tidemillref11_Same.l0 k (j : Int) L T z L T z = some true := by
  intro k
  induction k with
  | zero => intro j _ h; omega
  | succ k ih =>
    intro j hj hk
    unfold tidemillref11_Same.l0
    by_cases h : (j : Int) < (L.length : Int)
    · have hm := hL _ (rd_getD36 L j (by omega))
      rw [if_pos h, if_pos (Int.natCast_nonneg _), if_pos h, logs_same _ k ⟨by omega, by omega⟩ ⟨by omega, by omega⟩]
      rw [Option.bind_some, if_pos rfl, wrap_next (n := L.length) (by omega) hll]
      exact ih (j + 1) (by omega) (by omega)
    · rw [if_neg h]
      exact same_l1 L T z 1000000 hT (Nat.le_refl _) hl k 0 (Nat.zero_le _) (by omega)
theorem same_true (hL : ∀ x ∈ L, x.f1.length ≤ 100000 ∧ x.f2.length ≤ 100000) (hT : ∀ x ∈ T, x.f3.length ≤ 1000000 ∧ x.f4.length ≤ 1000000) (hll : L.length ≤ 1000000) (hl : T.length ≤ 1000000) : tidemillref11_Same.f 4000000 L T z L T z = some true := by
  unfold tidemillref11_Same.f
  rw [if_pos rfl, if_pos rfl]
  obtain ⟨k, hk⟩ : ∃ k, 4000000 = k + 1 := ⟨3999999, rfl⟩
  rw [hk]
  rw [tidemillref11_Same.j0, if_neg (by simp)]
  exact same_l0 L T z 100000 hL hT (Nat.le_refl _) hll hl k 0 (Nat.zero_le _) (by omega)
end
/-! ### how much is told -/
theorem runO_f3 (k : Int) (l : List S47) : ∀ (s : TS) (i : Int), s.t.f3.length ≤ 8 → (runO i s k l).t.f3.length ≤ 8 := by
  induction l with
  | nil => exact fun s i h => h
  | cons x l ih =>
    intro s i h
    rw [runO]
    refine ih _ _ ?_
    split
    · rename_i hx
      unfold stepO
      split
      · split
        · exact h
        · exact h
      · split
        · exact h
        · split
          · exact h
          · split
            · exact (may_nums (tk_of hx.1).1).2.2.2.2.1
            · exact h
    · exact h
theorem through_task (l : List S47) (k : Int) : getT (throughV l).T k = runO 0 (newT k) k l := by
  rw [through_split]
  show getT (goT [] 0 l) k = _
  rw [getT_go]
  rfl
/-- What is told of at most 301 entries is little enough to be compared. -/
theorem told_fits (l : List S47) (hl : l.length ≤ 310) : (∀ x ∈ (readV l).f0, x.f1.length ≤ 100000 ∧ x.f2.length ≤ 100000) ∧ (∀ x ∈ (readV l).f1, x.f3.length ≤ 1000000 ∧ x.f4.length ≤ 1000000) ∧ (readV l).f0.length ≤ 1000000 ∧ (readV l).f1.length ≤ 1000000 := by
  have hI := StInv.through l
  have hsq : l.length * l.length ≤ 310 * 310 := Nat.mul_le_mul hl hl
  refine ⟨fun x hx => ?_, fun x hx => ?_, ?_, ?_⟩
  · have := hI.bl.2 x (told_logs.1 hx)
    omega
  · obtain ⟨s, hs, rfl⟩ := told_tasks.1 hx
    have h4 := (hI.each s hs).2.1
    have h3 : s.t.f3.length ≤ 8 := by
      rw [← getT_in (KInv.through l).ndT hs, through_task]
      exact runO_f3 _ l _ _ (by simp [newT])
    have h5 := Nat.mul_le_mul_right 256 hl
    show s.t.f3.length ≤ _ ∧ s.t.f4.length ≤ _
    omega
  · have e := congrArg List.length (told_keys l)
    rw [List.length_map] at e
    unfold sortI at e
    rw [List.length_mergeSort, List.length_map] at e
    have := hI.bl.1
    omega
  · have e := congrArg List.length (told_keysT l)
    rw [List.length_map] at e
    unfold sortI at e
    rw [List.length_mergeSort, List.length_map] at e
    have := hI.tl
    omega
theorem read_same (l : List S47) (hl : l.length ≤ 310) (z : Int) : tidemillref11_Same.f 4000000 (readV l).f0 (readV l).f1 z (readV l).f0 (readV l).f1 z = some true := by
  obtain ⟨h1, h2, h3, h4⟩ := told_fits l hl
  exact same_true _ _ z h1 h2 h3 h4
end Go.Proofs.Ytmnglonjekegcaa.Vw
namespace Go.Proofs.Ytmnglonjekegcaa.Vw
open Go Go.RowKit Go.Proofs.Ytmnglonjekegcaa.Rp
set_option linter.unusedVariables false
set_option linter.unusedSimpArgs false
theorem ens_same {T : List TS} {k : Int} (h : k ∈ T.map (·.t.f0)) : ensT T k = T := by unfold ensT; rw [if_pos (hasT_iff.2 h)]
def LateE (k e : Int) (x : S47) : Prop := x.f1 = k ∧ x.f2 ≤ e ∧ 2 ≤ x.f0 ∧ x.f0 ≤ 5
theorem late_step {st : St} {k e : Int} (hin : k ∈ st.T.map (·.t.f0)) (hep : e < (getT st.T k).t.f1) {x : S47} (hx : LateE k e x) (at_ : Int) : stepV st at_ x = st := by
  obtain ⟨h1, h2, h3, h4⟩ := hx
  by_cases h0 : mayE x = false ∨ x.f0 = 6
  · unfold stepV
    rw [if_pos h0]
  · have hn1 : ¬ x.f0 = 1 := by omega
    have he : ensT st.T x.f1 = st.T := by rw [h1]; exact ens_same hin
    by_cases h5 : x.f0 = 5
    · rw [stepV_nofence h0 hn1 h5 rfl (by rw [h1]; omega), he]
    · rw [stepV_other h0 hn1 h5 rfl (.inl (by rw [h1]; omega)), he]
theorem late_go {k e : Int} (l : List S47) (hl : ∀ x ∈ l, LateE k e x) : ∀ {st : St} (i : Int), k ∈ st.T.map (·.t.f0) → e < (getT st.T k).t.f1 → goV st i l = st := by
  induction l with
  | nil => exact fun _ _ _ => rfl
  | cons x l ih =>
    intro st i h1 h2
    rw [goV, late_step h1 h2 (hl x (by simp))]
    exact ih (fun y hy => hl y (by simp [hy])) (i + 1) h1 h2
def fenE (k e : Int) : S47 := ⟨5, k, 1 + e, 0, 0, ⟨0, 0, 0⟩, false, [], []⟩
theorem may_fence {k e : Int} (hk : 0 ≤ k ∧ k ≤ 255) (he : 0 ≤ e ∧ e ≤ 255) : mayE (fenE k e) = true := by
  unfold mayE Rc.may
  rw [Bool.and_eq_true]
  constructor
  · unfold Rc.may0 Rc.num Rc.timeOk entOf fenE
    simp
    omega
  · rw [List.all_eq_true]
    intro i hi
    rw [List.mem_range] at hi
    rcases (show i = 0 ∨ i = 1 ∨ i = 2 ∨ i = 3 ∨ i = 4 ∨ i = 5 ∨ i = 6 ∨ i = 7 by omega) with rfl | rfl | rfl | rfl | rfl | rfl | rfl | rfl <;> first | rfl | (rw [Bool.or_eq_true]; exact Or.inr (show Nat.testBit 3 0 = true by decide)) | (rw [Bool.or_eq_true]; exact Or.inr (show Nat.testBit 3 1 = true by decide))
theorem tk_fence {k e : Int} (hk : 0 ≤ k ∧ k ≤ 255) (he : 0 ≤ e ∧ e ≤ 255) : tk (fenE k e) = true := by
  unfold tk
  rw [may_fence hk he]
  rfl
section
variable (l : List S47) {k e : Int} (hk : 0 ≤ k ∧ k ≤ 255) (he : 0 ≤ e ∧ e ≤ 255)
include hk he
theorem fenced : k ∈ (throughV (l ++ [fenE k e])).T.map (·.t.f0) ∧ e < (getT (throughV (l ++ [fenE k e])).T k).t.f1 := by
  rw [throughV_snoc, step_split (KInv.through l)]
  dsimp only
  constructor
  · rw [keys_step]
    exact .inr ⟨tk_fence hk he, rfl⟩
  · rw [getT_step, if_pos ⟨tk_fence hk he, rfl⟩]
    unfold stepO
    rw [if_pos (show (fenE k e).f0 = 5 from rfl)]
    split
    · show e < 1 + e
      omega
    · rename_i h
      have h2 : ¬ (getT (throughV l).T k).t.f1 < 1 + e := h
      omega
theorem fence_told : e < (getTV (readV (l ++ [fenE k e])).f1 k).f1 := by
  rw [told_getT]
  exact (fenced l hk he).2
theorem late_read (late : List S47) (h : ∀ x ∈ late, LateE k e x) : (readV ((l ++ [fenE k e]) ++ late)).f0 = (readV (l ++ [fenE k e])).f0 ∧ (readV ((l ++ [fenE k e]) ++ late)).f1 = (readV (l ++ [fenE k e])).f1 := by
  have e1 : throughV ((l ++ [fenE k e]) ++ late) = throughV (l ++ [fenE k e]) := by
    obtain ⟨h1, h2⟩ := fenced l hk he
    conv => lhs; unfold throughV
    rw [goV_append]
    exact late_go late h _ h1 h2
  unfold readV
  rw [e1]
  exact ⟨rfl, rfl⟩
end
end Go.Proofs.Ytmnglonjekegcaa.Vw
namespace Go.Proofs.Ytmnglonjekegcaa.Vw
open Go Go.RowKit Go.Maps Go.Proofs.Ytmnglonjekegcaa.Mk Go.Proofs.Ytmnglonjekegcaa.Rp Go.Proofs.YtmnglonjekegcaaW.PrintWords Go.Proofs.YtmnglonjekegcaaW.PrintLast Go.Proofs.YtmnglonjekegcaaW.PrintMore Go.Proofs.Ytmnglonjekegcaa.Rw Go.Proofs.Ytmnglonjekegcaa.Ow Go.Proofs.Ytmnglonjekegcaa.Mono
set_option linter.unusedVariables false
set_option linter.unusedSimpArgs false
set_option maxRecDepth 100000
theorem KeepE.below {w w' : World} (h : Below w.heap.size w w') : KeepE w w' := fun k T cs _ hk => blk_below hk h
theorem KeepE.trans {a b c : World} (h : KeepE a b) (k : KeepE b c) : KeepE a c := fun i T cs hT hi => k i T cs hT (h i T cs hT hi)
theorem field_ep (a b c o : Int) (B1 B2 : Option Addr) (m1 d1 m2 d2 : Nat) (w : World) : (Instr.field 41 (.agg #[.int .i64 a, .int .i64 b, .int .i64 c, .slice B1 m1 d1, .slice B2 m2 d2, .int .i64 o]) 1).run Try.prog w = .ok (.int .i64 b) w := by rfl
set_option maxHeartbeats 4000000 in
theorem fences_ok (A A' : Option Addr) (n c n' c' : Nat) (l : List S47) (k e : Int) (es : List S47) (w : World) (hC : Kd.C k47 w A n l) (hnc : n ≤ c) (hk0 : 0 ≤ k) (hk1 : k ≤ 255) (he0 : 0 ≤ e) (he1 : e ≤ 255) (hC' : Kd.C k47 w A' n' es) (hnc' : n' ≤ c') : Calls Try.prog 5 #[.slice A n c, .int .u8 k, .int .u8 e, .slice A' n' c'] w fun e w' => e = .returned (.bool true) ∧ Below w.heap.size w w' := by
  have HC0 := Aside0.mk (few_C hC)
  have HE0 := Aside0.mk hC'
  have HKB := Aside0.mk (And.intro hk0 hk1)
  have HEB := Aside0.mk (And.intro he0 he1)
  clear hC hC'
  obtain ⟨l1, HL1⟩ : ∃ x, Aside0 (l.take 200 = x) := ⟨_, ⟨rfl⟩⟩
  rw [HL1.out] at HC0
  have HLn := Aside0.mk HC0.out.1
  go_enter Try.func5, Try.ntmps5
  go_wp2_with fail
  refine (shown_ok w).mono ?_
  rintro e_ w1 ⟨rfl, hb_⟩
  have HBW := Aside0.mk hb_
  have HE := Aside0.mk (Kd.C_below HE0.out hb_)
  have HC := Aside0.mk (Kd.C_below HC0.out hb_)
  clear hb_ HE0 HC0
  go_wp2_with fail
  refine (few_ok A n c w1 hnc).mono ?_
  rintro e_ w1_ ⟨rfl, rfl⟩
  rename World => w1
  obtain ⟨n1, HN1⟩ : ∃ x, Aside0 (min n 200 = x) := ⟨_, ⟨rfl⟩⟩
  have hn1 : n1 ≤ 200 ∧ n1 ≤ c := by have := HN1.out; omega
  rw [HN1.out] at HC HLn ⊢
  clear hnc HN1
  obtain ⟨v1, wa, hr1_, he1_, hb1_, hs1_, B1, d1, rfl⟩ := (EO.lit w1 w1 (Nat.le_refl w1.heap.size)).app (below_alloc (Below.refl w1.heap.size w1) _) (by simp) A n1 c HC.out (by simp; omega) 22 rfl
  simp only [List.length_nil, Nat.zero_add, List.nil_append] at hr1_ he1_
  have hb4 := hb1_ _ w1 (Nat.le_refl _) (below_alloc (Below.refl w1.heap.size w1) _)
  obtain ⟨v2, wb, hr2_, he2_, hg2_, hat2_, hs2_, hb2_, B2, d2, rfl⟩ := he1_.app1 hb4 hs1_ (fenE k e) none none 0 0 (C_nil w1) (Nat.le_refl 0) (C_nil w1) (Nat.le_refl 0) (below_alloc (Below.refl wa.heap.size wa) (.cells #[.int .i64 5, .int .i64 k, .int .i64 (1 + e), .int .i64 0, .int .i64 0, .int .i64 0, .int .i64 0, .int .i64 0, .bool false, .slice none 0 0, .slice none 0 0] 47)) (heap_alloc_new wa (.cells #[.int .i64 5, .int .i64 k, .int .i64 (1 + e), .int .i64 0, .int .i64 0, .int .i64 0, .int .i64 0, .int .i64 0, .bool false, .slice none 0 0, .slice none 0 0] 47)) (by rw [HLn.out]; omega) 22 rfl
  rw [HLn.out] at hr2_ he2_
  have hb5 := hb2_ _ w1 (Nat.le_refl _) hb4
  obtain ⟨B3, d3, hv2, hbd, hdm, hbc⟩ := he2_.C hb5
  have hln : (l1 ++ [fenE k e]).length = n1 + 1 := by rw [List.length_append, HLn.out]; rfl
  rw [hln] at hbc hbd hv2
  obtain ⟨rfl, rfl⟩ : B2 = B3 ∧ d2 = d3 := by injection hv2 with e1 _ e2; exact ⟨e1, e2⟩
  obtain ⟨V0, HV0⟩ : ∃ V, Aside0 (l1 ++ [fenE k e] = V) := ⟨_, ⟨rfl⟩⟩
  rw [HV0.out] at he2_ hbc hln
  have HR1 := Aside0.mk hr1_
  have HR2 := Aside0.mk hr2_
  have HEO0 := Aside0.mk he2_
  have HVC := Aside0.mk (And.intro hbd hbc)
  have HVL := Aside0.mk hln
  have HB1 := Aside0.mk hb5
  clear hr1_ he1_ hb1_ hs1_ hr2_ he2_ hg2_ hat2_ hs2_ hb2_ hb4 hb5 hv2 hbd hdm hbc hln
  have hw_ : wrap64 (1 + e) = 1 + e := by unfold wrap64; omega
  go_wp2_with (at_builtin; first | refine wpList_append_eq _ rfl (.tmp 19) (.tmp 20) 22 22 rfl _ _ rfl rfl HR1.out ?_ | refine wpList_append_eq _ rfl (.tmp 21) (.tmp 28) 22 22 rfl _ _ rfl rfl HR2.out ?_)
  clear HR1 HR2 hw_
  refine (read_okQ B2 (n1 + 1) d2 V0 wb HVC.out.2 (by omega) HVC.out.1).mono ?_
  rintro e_ w4 ⟨C1, e1, C2, e2, rfl, hb_, q1_, _, q2_, _, gk_⟩
  rw [HVL.out]
  obtain ⟨L1, HLL⟩ : ∃ x, Aside0 ((readV V0).f0 = x) := ⟨_, ⟨rfl⟩⟩
  obtain ⟨T1, HTT⟩ : ∃ x, Aside0 ((readV V0).f1 = x) := ⟨_, ⟨rfl⟩⟩
  have HFIT : Aside0 (L1.length ≤ 1000000 ∧ T1.length ≤ 1000000) := ⟨by rw [← HLL.out, ← HTT.out]; exact (told_fits V0 (by rw [HVL.out]; omega)).2.2⟩
  have HSM : Aside0 (∀ z, tidemillref11_Same.f 4000000 L1 T1 z L1 T1 z = some true) := ⟨fun z => by rw [← HLL.out, ← HTT.out]; exact read_same V0 (by rw [HVL.out]; omega) z⟩
  rw [HLL.out] at q1_ gk_ ⊢
  rw [HTT.out] at q2_ gk_ ⊢
  obtain ⟨p1, HP1⟩ : ∃ x, Aside0 (L1.length = x) := ⟨_, ⟨rfl⟩⟩
  obtain ⟨p2, HP2⟩ : ∃ x, Aside0 (T1.length = x) := ⟨_, ⟨rfl⟩⟩
  rw [HP1.out] at q1_ gk_ HFIT ⊢
  rw [HP2.out] at q2_ gk_ HFIT ⊢
  have HG0 := Aside0.mk gk_
  have HGQ := Aside0.mk (And.intro q1_ q2_)
  replace HEO0 := Aside0.mk (HEO0.out.below hb_)
  replace HB1 := Aside0.mk (below_on HB1.out HB1.out.size hb_)
  clear hb_ q1_ q2_ gk_ HVC HC
  go_upto_region 5 with fail
  have HOA := Aside0.mk (heap_alloc_new w4 (.cells #[.slice C1 p1 e1, .slice C2 p2 e2, .int .i64 ((n1 : Int) + 1)] 29))
  have hb_ := below_alloc (Below.refl w4.heap.size w4) (.cells #[.slice C1 p1 e1, .slice C2 p2 e2, .int .i64 ((n1 : Int) + 1)] 29)
  generalize w4.alloc (.cells #[.slice C1 p1 e1, .slice C2 p2 e2, .int .i64 ((n1 : Int) + 1)] 29) = w5 at HOA hb_ ⊢
  replace HEO0 := Aside0.mk (HEO0.out.below hb_)
  replace HB1 := Aside0.mk (below_on HB1.out HB1.out.size hb_)
  have HG := Aside0.mk (fun (W2 : World) (hk : KeepE w5 W2) => HG0.out W2 ((KeepE.below hb_).trans hk))
  clear hb_ HG0
  obtain ⟨ga, Hga⟩ : ∃ g, Aside0 (w4.heap.size = g) := ⟨_, ⟨rfl⟩⟩
  rw [Hga.out] at HOA ⊢
  go_upto_block 0 with (fail)
  go_cut [10, 12] (fun va vm wc => ∃ (m : Nat) (A5 : Option Addr) (c5 : Nat) (ys : List S47), va = .slice A5 (n1 + 1 + m) c5 ∧ vm = .int .i64 (m : Int) ∧ m ≤ 100 ∧ Aside0 (ys.length = m) ∧ Aside0 (EO w1 w1.heap.size wc (.slice A5 (n1 + 1 + m) c5) (V0 ++ ys)) ∧ Aside0 (∀ x ∈ ys, LateE k e x) ∧ Aside0 (KeepE w5 wc) ∧ Aside0 (Below w1.heap.size w1 wc))
  case first =>
    go_wp2_with fail
    go_loopw [10, 12, 13] (fun va vm vi wr => ∃ (i m : Nat) (A5 : Option Addr) (c5 : Nat) (ys : List S47), i ≤ n' ∧ i ≤ 100 ∧ vi = .int .i64 (i : Int) ∧ va = .slice A5 (n1 + 1 + m) c5 ∧ vm = .int .i64 (m : Int) ∧ m ≤ i ∧ Aside0 (ys.length = m) ∧ Aside0 (EO w1 w1.heap.size wr (.slice A5 (n1 + 1 + m) c5) (V0 ++ ys)) ∧ Aside0 (∀ x ∈ ys, LateE k e x) ∧ Aside0 (KeepE w5 wr) ∧ Aside0 (Below w1.heap.size w1 wr)) (fun _ _ vi _ => 100 - (intOf vi).toNat)
    case atStart => exact ⟨0, 0, B2, d2, [], Nat.zero_le _, Nat.zero_le _, rfl, rfl, rfl, Nat.le_refl _, ⟨rfl⟩, ⟨by rw [List.append_nil]; exact HEO0.out⟩, ⟨by simp⟩, ⟨fun _ _ _ _ h => h⟩, HB1⟩
    case round =>
      obtain ⟨i, m, A5, c5, ys, hi, hi2, rfl, rfl, rfl, hm, HYL, HEO, HP, HKE, HB2⟩ := hrel
      by_cases hlt : i < n'
      · have h1 : decide ((i : Int) < (n' : Int)) = true := by simp; omega
        have h1b : decide (i < n') = true := by simp; omega
        by_cases hl2 : i < 100
        · have h2 : decide ((i : Int) < 100) = true := by simp; omega
          have h2b : decide (i < 100) = true := by simp; omega
          obtain ⟨x, hx⟩ : ∃ x, es[i]? = some x := ⟨_, List.getElem?_eq_getElem (by rw [HE.out.1]; exact hlt)⟩
          obtain ⟨ad, A9, c9, A10, c10, rfl, hcells⟩ := at_T47 HE.out (i : Int) (Int.natCast_nonneg _) (Int.ofNat_lt.2 hlt)
          rw [rd_eq hx] at hcells
          clear hx
          obtain ⟨x0_, x1_, x2_, x3_, x4_, x5_, x6_, x7_, x8_, x9_, x10_, l9, k9, l10, k10⟩ := hcells
          replace x0_ := pw_cell_below HB2.out x0_
          replace x1_ := pw_cell_below HB2.out x1_
          replace x2_ := pw_cell_below HB2.out x2_
          replace x3_ := pw_cell_below HB2.out x3_
          replace x4_ := pw_cell_below HB2.out x4_
          replace x5_ := pw_cell_below HB2.out x5_
          replace x6_ := pw_cell_below HB2.out x6_
          replace x7_ := pw_cell_below HB2.out x7_
          replace x8_ := pw_cell_below HB2.out x8_
          replace x9_ := pw_cell_below HB2.out x9_
          replace x10_ := pw_cell_below HB2.out x10_
          rw [Int.toNat_natCast] at x0_ x1_ x2_ x3_ x4_ x5_ x6_ x7_ x8_ x9_ x10_
          have HK := Aside0.mk (And.intro (And.intro l9 k9) (And.intro l10 k10))
          clear l9 k9 l10 k10
          go_upto_region 10 with fail
          clear x0_ x1_ x2_ x3_ x4_ x5_ x6_ x7_ x8_ x9_ x10_
          have HX := Aside0.mk (heap_alloc_new wr (.cells #[.int .i64 x.f0, .int .i64 x.f1, .int .i64 x.f2, .int .i64 x.f3, .int .i64 x.f4, .int .i64 x.f5.f0, .int .i64 x.f5.f1, .int .i64 x.f5.f2, .bool x.f6, .slice A9 x.f7.length c9, .slice A10 x.f8.length c10] 47))
          have HBR := Aside0.mk (below_alloc (Below.refl wr.heap.size wr) (.cells #[.int .i64 x.f0, .int .i64 x.f1, .int .i64 x.f2, .int .i64 x.f3, .int .i64 x.f4, .int .i64 x.f5.f0, .int .i64 x.f5.f1, .int .i64 x.f5.f2, .bool x.f6, .slice A9 x.f7.length c9, .slice A10 x.f8.length c10] 47))
          generalize wr.alloc (.cells #[.int .i64 x.f0, .int .i64 x.f1, .int .i64 x.f2, .int .i64 x.f3, .int .i64 x.f4, .int .i64 x.f5.f0, .int .i64 x.f5.f1, .int .i64 x.f5.f2, .bool x.f6, .slice A9 x.f7.length c9, .slice A10 x.f8.length c10] 47) = wx at HX HBR ⊢
          obtain ⟨gx, HGX⟩ : ∃ g, Aside0 (wr.heap.size = g) := ⟨_, ⟨rfl⟩⟩
          rw [HGX.out] at HX ⊢
          have HGE : Aside0 (wr.heap.size ≤ gx) := ⟨by rw [HGX.out]; exact Nat.le_refl _⟩
          have z1_ := (blk_cell HX.out 1).trans (rfl : _ = some (.int .i64 x.f1 : Value))
          have f1_ := blk_frozen HX.out 1
          go_upto_region 11 with fail
          clear z1_ f1_
          replace HX := Aside0.mk (blk_put HX.out 1 (.int .i64 k) (rfl : _ = (#[.int .i64 x.f0, .int .i64 k, .int .i64 x.f2, .int .i64 x.f3, .int .i64 x.f4, .int .i64 x.f5.f0, .int .i64 x.f5.f1, .int .i64 x.f5.f2, .bool x.f6, .slice A9 x.f7.length c9, .slice A10 x.f8.length c10] : Array Value)))
          replace HBR := Aside0.mk (HBR.out.setCell (p := ⟨gx, 1, none⟩) HGE.out (.int .i64 k))
          generalize wx.setCell ⟨gx, 1, none⟩ (.int .i64 k) = wy at HX HBR ⊢
          have b0_ := (blk_cell HX.out 0).trans (rfl : _ = some (.int .i64 x.f0 : Value))
          have b2_ := (blk_cell HX.out 2).trans (rfl : _ = some (.int .i64 x.f2 : Value))
          have HSK : Aside0 (∃ A' c2 ys2, (.slice A5 (n1 + 1 + m) c5 : Value) = .slice A' (n1 + 1 + m) c2 ∧ ys2 = ys) := ⟨_, _, _, rfl, rfl⟩
          have HEB2 := Aside0.mk (HEO.out.below HBR.out)
          have HKB2 : Aside0 (KeepE w5 wy) := ⟨HKE.out.trans (KeepE.below HBR.out)⟩
          have HBB2 : Aside0 (Below w1.heap.size w1 wy) := ⟨below_on HB2.out HB2.out.size HBR.out⟩
          by_cases hk2 : 2 ≤ x.f0
          · have d2_ : decide (x.f0 ≥ 2) = true := by simpa using hk2
            have d2b_ : decide (2 ≤ x.f0) = true := by simpa using hk2
            by_cases hk5 : x.f0 ≤ 5
            · have d5_ : decide (x.f0 ≤ 5) = true := by simpa using hk5
              by_cases hep : x.f2 ≤ e
              · have de_ : decide (x.f2 ≤ e) = true := by simpa using hep
                have HLE := Aside0.mk (show LateE k e ({ x with f1 := k } : S47) from ⟨rfl, hep, hk2, hk5⟩)
                clear hk2 hk5 hep b0_ b2_
                have b0_ := (blk_cell (HX.out) 0).trans (rfl : _ = some (.int .i64 x.f0 : Value))
                have b1_ := (blk_cell (HX.out) 1).trans (rfl : _ = some (.int .i64 k : Value))
                have b2_ := (blk_cell (HX.out) 2).trans (rfl : _ = some (.int .i64 x.f2 : Value))
                have b3_ := (blk_cell (HX.out) 3).trans (rfl : _ = some (.int .i64 x.f3 : Value))
                have b4_ := (blk_cell (HX.out) 4).trans (rfl : _ = some (.int .i64 x.f4 : Value))
                have b5_ := (blk_cell (HX.out) 5).trans (rfl : _ = some (.int .i64 x.f5.f0 : Value))
                have b6_ := (blk_cell (HX.out) 6).trans (rfl : _ = some (.int .i64 x.f5.f1 : Value))
                have b7_ := (blk_cell (HX.out) 7).trans (rfl : _ = some (.int .i64 x.f5.f2 : Value))
                have b8_ := (blk_cell (HX.out) 8).trans (rfl : _ = some (.bool x.f6 : Value))
                have b9_ := (blk_cell (HX.out) 9).trans (rfl : _ = some (.slice A9 x.f7.length c9 : Value))
                have b10_ := (blk_cell (HX.out) 10).trans (rfl : _ = some (.slice A10 x.f8.length c10 : Value))
                obtain ⟨v_, wd, hr_, he_, hg_, hat_, hbs_, hbb_, A6, c6, rfl⟩ := HEO.out.app1 HB2.out HB2.out.size ({ x with f1 := k } : S47) A9 A10 c9 c10 HK.out.1.2 HK.out.1.1 HK.out.2.2 HK.out.2.1 (below_alloc HBR.out (.cells #[.int .i64 x.f0, .int .i64 k, .int .i64 x.f2, .int .i64 x.f3, .int .i64 x.f4, .int .i64 x.f5.f0, .int .i64 x.f5.f1, .int .i64 x.f5.f2, .bool x.f6, .slice A9 x.f7.length c9, .slice A10 x.f8.length c10] 47)) (heap_alloc_new wy (.cells #[.int .i64 x.f0, .int .i64 k, .int .i64 x.f2, .int .i64 x.f3, .int .i64 x.f4, .int .i64 x.f5.f0, .int .i64 x.f5.f1, .int .i64 x.f5.f2, .bool x.f6, .slice A9 x.f7.length c9, .slice A10 x.f8.length c10] 47)) (by rw [List.length_append, HVL.out, HYL.out]; omega) 22 rfl
                have hlen : (V0 ++ ys).length = n1 + 1 + m := by rw [List.length_append, HVL.out, HYL.out]
                rw [hlen] at hr_ he_
                rw [List.append_assoc] at he_
                have HR := Aside0.mk hr_
                have HEO2 := Aside0.mk he_
                have HB3 := Aside0.mk (hbb_ _ w1 (Nat.le_refl _) HB2.out)
                have HKE2 : Aside0 (KeepE w5 wd) := ⟨HKB2.out.trans ((KeepE.below (below_alloc (Below.refl wy.heap.size wy) (.cells #[.int .i64 x.f0, .int .i64 k, .int .i64 x.f2, .int .i64 x.f3, .int .i64 x.f4, .int .i64 x.f5.f0, .int .i64 x.f5.f1, .int .i64 x.f5.f2, .bool x.f6, .slice A9 x.f7.length c9, .slice A10 x.f8.length c10] 47))).trans (HEO.out.keep (below_alloc HBR.out (.cells #[.int .i64 x.f0, .int .i64 k, .int .i64 x.f2, .int .i64 x.f3, .int .i64 x.f4, .int .i64 x.f5.f0, .int .i64 x.f5.f1, .int .i64 x.f5.f2, .bool x.f6, .slice A9 x.f7.length c9, .slice A10 x.f8.length c10] 47)) hg_))⟩
                clear hr_ he_ hg_ hat_ hbs_ hbb_ hlen
                go_wp2_with (at_builtin; refine wpList_append_eq _ rfl (.tmp 64) (.tmp 66) 22 22 rfl _ _ rfl rfl HR.out ?_)
                go_roundw
                case rel => exact ⟨i + 1, m + 1, A6, c6, ys ++ [({ x with f1 := k } : S47)], by omega, by omega, by go_num, rfl, by go_num, by omega, ⟨by rw [List.length_append, HYL.out]; rfl⟩, HEO2, ⟨fun z hz => (List.mem_append.1 hz).elim (HP.out z) fun hz => by rw [List.mem_singleton] at hz; subst hz; exact HLE.out⟩, HKE2, HB3⟩
                case measure => simp [intOf]; omega
              · have de_ : decide (x.f2 ≤ e) = false := by simpa using hep
                clear hk2 hk5 hep
                go_wp2_with fail
                go_roundw
                case rel => exact ⟨i + 1, m, A5, c5, ys, by omega, by omega, by go_num, rfl, rfl, by omega, HYL, HEB2, HP, HKB2, HBB2⟩
                case measure => simp [intOf]; omega
            · have d5_ : decide (x.f0 ≤ 5) = false := by simpa using hk5
              clear hk2 hk5
              go_wp2_with fail
              go_roundw
              case rel => exact ⟨i + 1, m, A5, c5, ys, by omega, by omega, by go_num, rfl, rfl, by omega, HYL, HEB2, HP, HKB2, HBB2⟩
              case measure => simp [intOf]; omega
          · have d2_ : decide (x.f0 ≥ 2) = false := by simpa using hk2
            have d2b_ : decide (2 ≤ x.f0) = false := by simpa using hk2
            clear hk2
            go_wp2_with fail
            go_roundw
            case rel => exact ⟨i + 1, m, A5, c5, ys, by omega, by omega, by go_num, rfl, rfl, by omega, HYL, HEB2, HP, HKB2, HBB2⟩
            case measure => simp [intOf]; omega
        · have h2 : decide ((i : Int) < 100) = false := by simp; omega
          have h2b : decide (i < 100) = false := by simp; omega
          go_wp2_with fail
          go_meet
          case rel => exact ⟨m, A5, c5, ys, rfl, rfl, by omega, HYL, HEO, HP, HKE, HB2⟩
      · have h1 : decide ((i : Int) < (n' : Int)) = false := by simp; omega
        have h1b : decide (i < n') = false := by simp; omega
        go_wp2_with fail
        go_meet
        case rel => exact ⟨m, A5, c5, ys, rfl, rfl, by omega, HYL, HEO, HP, HKE, HB2⟩
  case rest =>
  obtain ⟨m, A5, c5, ys, rfl, rfl, hm, HYL, HEO, HP, HKE, HB2⟩ := hcut
  rename World => w6
  have HLR := Aside0.mk (late_read l1 HKB.out HEB.out ys HP.out)
  have HFT := Aside0.mk (fence_told l1 HKB.out HEB.out)
  rw [HV0.out] at HLR HFT
  have hlen : (V0 ++ ys).length = n1 + 1 + m := by rw [List.length_append, HVL.out, HYL.out]
  obtain ⟨B1, d1, e_, hd1, _, hbc⟩ := HEO.out.C HB2.out
  rw [hlen] at e_ hd1 hbc
  obtain ⟨rfl, rfl⟩ : A5 = B1 ∧ c5 = d1 := by injection e_ with e1 _ e2; exact ⟨e1, e2⟩
  clear e_ HEO HEO0 HE HB1
  go_wp2_with fail
  refine (read_ok A5 (n1 + 1 + m) c5 (V0 ++ ys) w6 hbc (by omega) hd1).mono ?_
  rintro e_ w7 ⟨D1, f1, D2, f2, rfl, hb_, q1_, g1_, q2_, g2_⟩
  rw [hlen]
  rw [HLR.out.1, HLL.out] at q1_ g1_ ⊢
  rw [HLR.out.2, HTT.out] at q2_ g2_ ⊢
  rw [HP1.out] at q1_ g1_ ⊢
  rw [HP2.out] at q2_ g2_ ⊢
  have HH1 := Aside0.mk (And.intro g1_ q1_)
  have HH2 := Aside0.mk (And.intro g2_ q2_)
  replace HKE := Aside0.mk (HKE.out.trans (KeepE.below hb_))
  replace HB2 := Aside0.mk (below_on HB2.out HB2.out.size hb_)
  have HOA7 := Aside0.mk (HKE.out _ _ _ (by decide) HOA.out)
  clear hb_ q1_ g1_ q2_ g2_ hbc hd1 hlen HOA
  go_upto_region 15 with fail
  have HOB := Aside0.mk (heap_alloc_new w7 (.cells #[.slice D1 p1 f1, .slice D2 p2 f2, .int .i64 ((n1 : Int) + 1 + (m : Int))] 29))
  have HBR := Aside0.mk (below_alloc (Below.refl w7.heap.size w7) (.cells #[.slice D1 p1 f1, .slice D2 p2 f2, .int .i64 ((n1 : Int) + 1 + (m : Int))] 29))
  generalize w7.alloc (.cells #[.slice D1 p1 f1, .slice D2 p2 f2, .int .i64 ((n1 : Int) + 1 + (m : Int))] 29) = w8 at HOB HBR ⊢
  obtain ⟨gb, Hgb⟩ : ∃ g, Aside0 (w7.heap.size = g) := ⟨_, ⟨rfl⟩⟩
  rw [Hgb.out] at HOB ⊢
  have HGE : Aside0 (w7.heap.size ≤ gb) := ⟨by rw [Hgb.out]; exact Nat.le_refl _⟩
  have hs_ : wrap64 ((n1 : Int) + 1 + (m : Int) - (m : Int)) = (n1 : Int) + 1 := by unfold wrap64; omega
  have z2_ := (blk_cell HOB.out 2).trans (rfl : _ = some (.int .i64 ((n1 : Int) + 1 + (m : Int)) : Value))
  have f2_ := blk_frozen HOB.out 2
  go_upto_region 16 with fail
  try rw [hs_]
  clear z2_ f2_ hs_
  replace HOB := Aside0.mk (blk_put HOB.out 2 (.int .i64 ((n1 : Int) + 1)) (rfl : _ = (#[.slice D1 p1 f1, .slice D2 p2 f2, .int .i64 ((n1 : Int) + 1)] : Array Value)))
  replace HBR := Aside0.mk (HBR.out.setCell (p := ⟨gb, 2, none⟩) HGE.out (.int .i64 ((n1 : Int) + 1)))
  generalize w8.setCell ⟨gb, 2, none⟩ (.int .i64 ((n1 : Int) + 1)) = w9 at HOB HBR ⊢
  replace HOA7 := Aside0.mk (blk_below HOA7.out HBR.out)
  replace HH1 := Aside0.mk (And.intro (Kd.C_below HH1.out.1 HBR.out) HH1.out.2)
  replace HH2 := Aside0.mk (And.intro (Kd.C_below HH2.out.1 HBR.out) HH2.out.2)
  replace HB2 := Aside0.mk (below_on HB2.out HB2.out.size HBR.out)
  have HGW := Aside0.mk (HG.out w9 (HKE.out.trans (KeepE.below HBR.out)))
  obtain ⟨hp1⟩ := HP1
  subst hp1
  obtain ⟨hp2⟩ := HP2
  subst hp2
  clear HG HKE HBR
  have a0_ := (blk_cell HOA7.out 0).trans (rfl : _ = some (.slice C1 L1.length e1 : Value))
  have a1_ := (blk_cell HOA7.out 1).trans (rfl : _ = some (.slice C2 T1.length e2 : Value))
  have a2_ := (blk_cell HOA7.out 2).trans (rfl : _ = some (.int .i64 ((n1 : Int) + 1) : Value))
  have b0_ := (blk_cell HOB.out 0).trans (rfl : _ = some (.slice D1 L1.length f1 : Value))
  have b1_ := (blk_cell HOB.out 1).trans (rfl : _ = some (.slice D2 T1.length f2 : Value))
  have b2_ := (blk_cell HOB.out 2).trans (rfl : _ = some (.int .i64 ((n1 : Int) + 1) : Value))
  go_wp2_with fail
  refine (tidemillref11_Same.calls 4000000 C1 e1 L1 C2 e2 T1 ((n1 : Int) + 1) D1 f1 L1 D2 f2 T1 ((n1 : Int) + 1) true w9 HGW.out.1 HGQ.out.1 HGW.out.2 HGQ.out.2 HH1.out.1 HH1.out.2 HH2.out.1 HH2.out.2 (HSM.out _)).mono ?_
  rintro e_ w10 ⟨rfl, hb_⟩
  replace HB2 := Aside0.mk (below_on HB2.out HB2.out.size hb_)
  replace HOA7 := Aside0.mk (blk_below HOA7.out hb_)
  replace HGW := Aside0.mk (Kd.C_below HGW.out.2 hb_)
  clear hb_ a0_ a1_ a2_ b0_ b1_ b2_ HOB HH1 HH2
  have a0_ := (blk_cell HOA7.out 0).trans (rfl : _ = some (.slice C1 L1.length e1 : Value))
  have a1_ := (blk_cell HOA7.out 1).trans (rfl : _ = some (.slice C2 T1.length e2 : Value))
  have a2_ := (blk_cell HOA7.out 2).trans (rfl : _ = some (.int .i64 ((n1 : Int) + 1) : Value))
  have hT6 := HFIT.out.2
  go_wp2_with fail
  refine (taskv_ok C1 C2 L1.length e1 T1.length e2 ((n1 : Int) + 1) k T1 w10 HGW.out (by omega) HGQ.out.2).mono ?_
  rintro e_ w11 ⟨Y3, dy3, Y4, dy4, rfl, hb_, hy1_, hy2_, hy3_, hy4_⟩
  have hft := HFT.out
  rw [HTT.out] at hft
  obtain ⟨y, HY⟩ : ∃ y, Aside0 (getTV T1 k = y) := ⟨_, ⟨rfl⟩⟩
  rw [HY.out] at hft ⊢
  have HB3 := Aside0.mk (below_on HB2.out HB2.out.size hb_)
  have c1_ : decide (y.f1 > e) = true := by simpa using hft
  have c2_ : decide (e < y.f1) = true := by simpa using hft
  clear hb_ hy1_ hy2_ hy3_ hy4_ hft a0_ a1_ a2_
  have fr_ := field_ep y.f0 y.f1 y.f2 y.f5 Y3 Y4 y.f3.length dy3 y.f4.length dy4 w11
  go_wp2_with fail
  go_ret
  exact ⟨rfl, below_step HBW.out HB3.out⟩
end Go.Proofs.Ytmnglonjekegcaa.Vw
namespace Go.Proofs.Ytmnglonjekegcaa.Vw
open Go Go.RowKit Go.Proofs.YtmnglonjekegcaaW.PrintWords Go.Proofs.Ytmnglonjekegcaa.Opn Go.Proofs.Ytmnglonjekegcaa.Rp Go.Proofs.Ytmnglonjekegcaa.Rc
set_option linter.unusedVariables false
set_option linter.unusedSimpArgs false
theorem opens_Es {H : Type} {enc : TypeId × Value → H} : Opens enc Try.prog (Kd.slice 47 k47) 22 (GSlice fun v (_ : DataW H) => entOk v) :=
  opens_slice Try.underlying22 opens_Ent (by kernel_rfl)
end Go.Proofs.Ytmnglonjekegcaa.Vw
namespace Go.Proofs.Ytmnglonjekegcaa.Vw
open Go Go.RowKit
theorem wfv_u8 {n : Int} (h : (Lit.int .u8 n).wf = true) : 0 ≤ n ∧ n ≤ 255 := by
  simp [Lit.wf, IntKind.min, IntKind.max, IntKind.bits, IntKind.signed] at h
  omega
end Go.Proofs.Ytmnglonjekegcaa.Vw
