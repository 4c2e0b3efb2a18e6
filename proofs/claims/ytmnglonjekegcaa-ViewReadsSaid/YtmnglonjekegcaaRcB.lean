/- The contract of rec.May. -/
import Derived.Test.YtmnglonjekegcaaRcA
import Derived.Test.YtmnglonjekegcaaShuf
import Derived.Test.YtmnglonjekegcaaRcM
namespace Go.Proofs.Ytmnglonjekegcaa.Rc
open Go Go.RowKit Go.Maps Go.Proofs.YtmnglonjekegcaaW.PrintWords Go.Proofs.YtmnglonjekegcaaW.PrintLast Go.Proofs.YtmnglonjekegcaaW.PrintMore Go.Proofs.Ytmnglonjekegcaa.Shuf
set_option linter.unusedVariables false
set_option linter.unusedSimpArgs false
set_option maxRecDepth 100000
/-- An entry in memory: eleven cells at the head of block b. -/
structure EntAt (w : World) (b : Nat) (x : Ent) (A9 : Option Addr) (n9 c9 : Nat) (A10 : Option Addr) (n10 c10 : Nat) : Prop where
  c0 : w.cell? ⟨b, 0, none⟩ = some (.int .i64 x.kind)
  c1 : w.cell? ⟨b, 1, none⟩ = some (.int .i64 x.task)
  c2 : w.cell? ⟨b, 2, none⟩ = some (.int .i64 x.epoch)
  c3 : w.cell? ⟨b, 3, none⟩ = some (.int .i64 x.txn)
  c4 : w.cell? ⟨b, 4, none⟩ = some (.int .i64 x.log)
  c5 : w.cell? ⟨b, 5, none⟩ = some (.int .i64 x.key)
  c6 : w.cell? ⟨b, 6, none⟩ = some (.int .i64 x.val)
  c7 : w.cell? ⟨b, 7, none⟩ = some (.int .i64 x.time)
  c8 : w.cell? ⟨b, 8, none⟩ = some (.bool x.del)
  c9 : w.cell? ⟨b, 9, none⟩ = some (.slice A9 n9 c9)
  c10 : w.cell? ⟨b, 10, none⟩ = some (.slice A10 n10 c10)
theorem EntAt.below {w w1 : World} {b : Nat} {x : Ent} {A9 A10 : Option Addr} {n9 c9 n10 c10 : Nat} (h : EntAt w b x A9 n9 c9 A10 n10 c10) (hb : Below w.heap.size w w1) : EntAt w1 b x A9 n9 c9 A10 n10 c10 :=
  ⟨pw_cell_below hb h.c0, pw_cell_below hb h.c1, pw_cell_below hb h.c2, pw_cell_below hb h.c3, pw_cell_below hb h.c4, pw_cell_below hb h.c5, pw_cell_below hb h.c6, pw_cell_below hb h.c7, pw_cell_below hb h.c8, pw_cell_below hb h.c9, pw_cell_below hb h.c10⟩
def entV (x : Ent) (A9 : Option Addr) (n9 c9 : Nat) (A10 : Option Addr) (n10 c10 : Nat) : Value :=
  .agg #[.int .i64 x.kind, .int .i64 x.task, .int .i64 x.epoch, .int .i64 x.txn, .int .i64 x.log, .int .i64 x.key, .int .i64 x.val, .int .i64 x.time, .bool x.del, .slice A9 n9 c9, .slice A10 n10 c10]
theorem cell_new (w : World) (cs : Array Value) (e : TypeId) (j : Nat) (v : Value) (h : cs[j]? = some v) : (w.alloc (.cells cs e)).cell? ⟨w.heap.size, j, none⟩ = some v := by
  rw [cell_of_row _ _ _ _ _ _ (heap_alloc_new w _)]
  exact h
theorem C_lit (k : IntKind) (e : TypeId) (w : World) (xs : List Int) (cs : Array Value) (h : cs = (nums k xs).toArray) (hm : xs.length ≤ 9223372036854775807) : (Kd.int k).C (w.alloc (.cells cs e)) (some ⟨w.heap.size, 0, none⟩) xs.length xs := by
  refine ⟨rfl, hm, fun _ => ⟨_, rfl, fun j p hj => ⟨[.int k p], rfl, rfl, fun i u hu => ?_⟩⟩⟩
  have hi : i = 0 ∧ Value.int k p = u := by
    cases i with
    | zero => simpa using hu
    | succ i => simp at hu
  obtain ⟨rfl, rfl⟩ := hi
  show World.cell? _ ((⟨w.heap.size, 0, none⟩ : Addr).add (j * 1 + 0)) = _
  rw [add_plain, Nat.mul_one, Nat.add_zero]
  have hb := heap_alloc_new w (.cells cs e)
  rw [cell_of_row _ _ _ _ _ _ hb]
  simp [h, nums, hj]
theorem rec_ne (w : World) (a b c : Int) : (if a = 0 then if b = 0 then if c = 0 then Result.ok (Next.value (.bool false)) w else Result.ok (Next.value (.bool true)) w else Result.ok (Next.value (.bool true)) w else Result.ok (Next.value (.bool true)) w) = Result.ok (Next.value (.bool (decide ((a, b, c) ≠ (0, 0, 0))))) w := by
  by_cases h1 : a = 0 <;> by_cases h2 : b = 0 <;> by_cases h3 : c = 0 <;> simp [h1, h2, h3]
theorem numbers_named (A0 : Option Addr) (c0 n : Nat) (l0 : List Int) (w : World) (q : Bool) (hn : l0.length = n) (hr0 : Kd.C (Kd.int .i64) w A0 n l0) (hc0 : n ≤ c0) (hq : l0.all num = q) :
    Calls Try.prog 41 #[.slice A0 n c0] w fun e w' => e = .returned (.bool q) ∧ Below w.heap.size w w' := by
  subst hq
  exact numbers_ok A0 c0 n l0 w hn hr0 hc0
theorem plain_bool {v : Value} {y : DataW Unit × List MemPlace} (h : plainElem Try.prog 4 v = some y) : ∃ c, v = .bool c := by
  unfold plainElem at h
  rw [Try.underlying4] at h
  cases v <;> simp at h
  exact ⟨_, rfl⟩
def key2 (j : Nat) : Int := ((2 ^ j : Nat) : Int)
theorem next_marks {ops : Array Oper} {rest : List Oper} {o : Oper} {a : Act} {Q : Exit → Act → World → Prop} (w : World) (hg : o.guard = none) (it : Operand) (hop : o.op = Op.next it false) {bs : Nat → Bool} {D : DataW Unit} (hv : MView bs [] D) (b r n : Nat) (left : Lit → Bool) (cnt : Nat) {u : Nat} (hU : URel bs left u)
    (hit : a.eval it = .pointer (some ⟨r, 0, none⟩)) (h : w.ranges Try.prog 3 (plainElem Try.prog 4) b r n D left cnt)
    (hDone : Aside0 (u = mask bs) → wpList Try.prog ops Q rest (a.put o.dst (.tuple #[.bool false])) w)
    (hMore : ∀ (j : Nat) (w' : World) (cnt' : Nat), Aside0 (j < 8 ∧ w'.ranges Try.prog 3 (plainElem Try.prog 4) b r n D (fun z => left z && !z.sameKey (bitL j)) cnt' ∧ cnt' < cnt ∧ w.grownBy w' (some r) ∧ URel bs (fun z => left z && !z.sameKey (bitL j)) (if bs j = true then u ||| 2 ^ j else u)) →
      (Instr.entry (.pointer (some ⟨r, 0, none⟩))).run Try.prog w' = .ok (.tuple #[.int .i64 (key2 j), .bool (bs j)]) w' → wpList Try.prog ops Q rest (a.put o.dst (.tuple #[.bool true, .int .i64 (key2 j), .bool (bs j)])) w') :
    wpList Try.prog ops Q (o :: rest) a w := by
  refine wpList_next_ranges _ hg it hop 3 K3 (plainElem Try.prog 4) (Value.int .i64) Value.bool (fun key kl hkey => by obtain ⟨x, rfl, _⟩ := Maps.keyOf_int_inv Try.underlying3 hkey; exact ⟨x, rfl⟩) (fun v y hv => plain_bool hv) b r n D left cnt hit h (fun _ hl => hDone ⟨hU.done hl⟩) ?_
  intro x c kl y w' cnt' hkey hlx hRc hat hrg hlt hgr hsz hen
  obtain ⟨x', ex, rfl, _⟩ := Maps.keyOf_int_inv Try.underlying3 hkey
  injection ex with _ ex
  subst ex
  obtain ⟨j, hj, ej⟩ := hU.only _ hlx
  have ex : x = ((2 ^ j : Nat) : Int) := by
    unfold bitL at ej
    injection ej
  subst ex
  have hc : c = bs j := by
    have h1 := hv.at_ j hj (by simp) .nil
    have h2 := hat .nil
    rw [plainElem_bool Try.underlying4] at hRc
    injection hRc with hRc
    subst hRc
    have h3 : D.atKey (bitL j) .nil = .lit (.bool c) := h2
    rw [h1] at h3
    injection h3 with h3
    injection h3 with h3
    exact h3.symm
  subst hc
  exact hMore j w' cnt' ⟨hj, hrg, hlt, hgr, hU.step hj hlx⟩ hen
def bsOf (tk ep tx lg : Int) (q5 dl : Bool) (n9 n10 : Nat) (j : Nat) : Bool := [tk != 0, ep != 0, tx != 0, lg != 0, q5, dl, decide (0 < n9), decide (0 < n10)].getD j false
theorem all_congr {l : List Nat} {f g : Nat → Bool} (h : ∀ i ∈ l, f i = g i) : l.all f = l.all g := by
  induction l with
  | nil => rfl
  | cons x xs ih =>
    rw [List.all_cons, List.all_cons, h x (List.mem_cons_self ..), ih (fun i hi => h i (List.mem_cons_of_mem _ hi))]
theorem has_bs {k tk ep tx lg ky vl tm : Int} {dl q5 : Bool} {l9 l10 : List Int} {n9 n10 : Nat} (h5 : decide ((ky, vl, tm) ≠ (0, 0, 0)) = q5) (h9 : l9.length = n9) (h10 : l10.length = n10) (i : Nat) (hi : i ∈ List.range 8) : (⟨k, tk, ep, tx, lg, ky, vl, tm, dl, l9, l10⟩ : Ent).has i = bsOf tk ep tx lg q5 dl n9 n10 i := by
  have hi8 := List.mem_range.1 hi
  have hb : ∀ a : Int, decide (a ≠ 0) = (a != 0) := fun a => by cases h : (a != 0) <;> simp_all
  obtain rfl | rfl | rfl | rfl | rfl | rfl | rfl | rfl : i = 0 ∨ i = 1 ∨ i = 2 ∨ i = 3 ∨ i = 4 ∨ i = 5 ∨ i = 6 ∨ i = 7 := by omega
  · exact hb tk
  · exact hb ep
  · exact hb tx
  · exact hb lg
  · exact h5
  · rfl
  · show decide (0 < l9.length) = decide (0 < n9); rw [h9]
  · show decide (0 < l10.length) = decide (0 < n10); rw [h10]
set_option maxHeartbeats 4000000 in
set_option maxRecDepth 100000 in
theorem may_any (k tk ep tx lg ky vl tm : Int) (dl : Bool) (l9 l10 : List Int) (A9 : Option Addr) (n9 c9 : Nat) (A10 : Option Addr) (n10 c10 : Nat) (w : World) (h9 : l9.length = n9) (h10 : l10.length = n10) (hr9 : (Kd.int .i64).C w A9 n9 l9) (hc9 : n9 ≤ c9) (hr10 : (Kd.int .i64).C w A10 n10 l10) (hc10 : n10 ≤ c10) :
    Calls Try.prog 32 #[entV ⟨k, tk, ep, tx, lg, ky, vl, tm, dl, l9, l10⟩ A9 n9 c9 A10 n10 c10] w fun e w' => e = .returned (.bool (may ⟨k, tk, ep, tx, lg, ky, vl, tm, dl, l9, l10⟩)) ∧ Below w.heap.size w w' := by
  have H9 := Aside0.mk h9
  have H10 := Aside0.mk h10
  have HC9 := Aside0.mk hr9
  have HC10 := Aside0.mk hr10
  clear h9 h10 hr9 hr10
  have HB0 := Aside0.mk (Below.refl w.heap.size w)
  obtain ⟨r, HR⟩ : ∃ r, Aside0 (may ⟨k, tk, ep, tx, lg, ky, vl, tm, dl, l9, l10⟩ = r) := ⟨_, ⟨rfl⟩⟩
  rw [HR.out]
  unfold entV
  simp only
  go_enter Try.func32, Try.ntmps32
  go_upto_region 1 with fail
  replace HC9 := Aside0.mk (Kd.C_below HC9.out (below_alloc HB0.out (.cells #[.int .i64 k, .int .i64 tk, .int .i64 ep, .int .i64 tx, .int .i64 lg, .int .i64 ky, .int .i64 vl, .int .i64 tm, .bool dl, .slice A9 n9 c9, .slice A10 n10 c10] 47)))
  replace HC10 := Aside0.mk (Kd.C_below HC10.out (below_alloc HB0.out (.cells #[.int .i64 k, .int .i64 tk, .int .i64 ep, .int .i64 tx, .int .i64 lg, .int .i64 ky, .int .i64 vl, .int .i64 tm, .bool dl, .slice A9 n9 c9, .slice A10 n10 c10] 47)))
  have HB := Aside0.mk (below_alloc HB0.out (.cells #[.int .i64 k, .int .i64 tk, .int .i64 ep, .int .i64 tx, .int .i64 lg, .int .i64 ky, .int .i64 vl, .int .i64 tm, .bool dl, .slice A9 n9 c9, .slice A10 n10 c10] 47))
  have HE : Aside0 (EntAt (w.alloc (.cells #[.int .i64 k, .int .i64 tk, .int .i64 ep, .int .i64 tx, .int .i64 lg, .int .i64 ky, .int .i64 vl, .int .i64 tm, .bool dl, .slice A9 n9 c9, .slice A10 n10 c10] 47)) w.heap.size ⟨k, tk, ep, tx, lg, ky, vl, tm, dl, l9, l10⟩ A9 n9 c9 A10 n10 c10) :=
    ⟨⟨cell_new _ _ _ _ _ rfl, cell_new _ _ _ _ _ rfl, cell_new _ _ _ _ _ rfl, cell_new _ _ _ _ _ rfl, cell_new _ _ _ _ _ rfl, cell_new _ _ _ _ _ rfl, cell_new _ _ _ _ _ rfl, cell_new _ _ _ _ _ rfl, cell_new _ _ _ _ _ rfl, cell_new _ _ _ _ _ rfl, cell_new _ _ _ _ _ rfl⟩⟩
  generalize hw0 : w.alloc (.cells #[.int .i64 k, .int .i64 tk, .int .i64 ep, .int .i64 tx, .int .i64 lg, .int .i64 ky, .int .i64 vl, .int .i64 tm, .bool dl, .slice A9 n9 c9, .slice A10 n10 c10] 47) = w0 at *
  have HBN := Aside0.mk (show w.heap.size < w0.heap.size by rw [← hw0]; simp)
  clear hw0
  by_cases h1 : k < 1
  · have h1a : decide (k < 1) = true := by simpa using h1
    obtain rfl : r = false := by rw [← HR.out]; unfold may may0; simp; omega
    obtain ⟨e0, e1, e2, e3, e4, e5, e6, e7, e8, e9, e10⟩ := HE.out; simp only at e0 e1 e2 e3 e4 e5 e6 e7 e8 e9 e10
    go_wp2
    go_ret
    exact ⟨rfl, HB.out⟩
  have h1a : decide (k < 1) = false := by simpa using h1
  by_cases h2 : 6 < k
  · have h2a : decide (6 < k) = true := by simpa using h2
    obtain rfl : r = false := by rw [← HR.out]; unfold may may0; simp; omega
    obtain ⟨e0, e1, e2, e3, e4, e5, e6, e7, e8, e9, e10⟩ := HE.out; simp only at e0 e1 e2 e3 e4 e5 e6 e7 e8 e9 e10
    go_wp2
    go_ret
    exact ⟨rfl, HB.out⟩
  have h2a : decide (6 < k) = false := by simpa using h2
  obtain ⟨q1, HQ1⟩ : ∃ q, Aside0 ([tk, ep, tx, lg].all num = q) := ⟨_, ⟨rfl⟩⟩
  obtain ⟨q2, HQ2⟩ : ∃ q, Aside0 (l9.all num = q) := ⟨_, ⟨rfl⟩⟩
  obtain ⟨q3, HQ3⟩ : ∃ q, Aside0 (l10.all num = q) := ⟨_, ⟨rfl⟩⟩
  obtain ⟨q4, HQ4⟩ : ∃ q, Aside0 (timeOk tm = q) := ⟨_, ⟨rfl⟩⟩
  have HQ1' : Aside0 ((num tk && num ep && num tx && num lg) = q1) := ⟨by have := HQ1.out; simpa [Bool.and_assoc] using this⟩
  have HM0 : Aside0 (may0 ⟨k, tk, ep, tx, lg, ky, vl, tm, dl, l9, l10⟩ = (q1 && q2 && q3 && q4 && decide (n9 ≤ 8) && decide (n10 ≤ 256))) := ⟨by
    unfold may0
    simp only
    rw [HQ1'.out, HQ2.out, HQ3.out, HQ4.out, H9.out, H10.out]
    have e1 : decide (1 ≤ k) = true := by simp; omega
    have e2 : decide (k ≤ 6) = true := by simp; omega
    rw [e1, e2]
    simp [Bool.and_assoc]⟩
  have HRF : Aside0 ((q1 && q2 && q3 && q4 && decide (n9 ≤ 8) && decide (n10 ≤ 256)) = false → r = false) := ⟨fun h => by
    rw [← HR.out]
    unfold may
    rw [HM0.out, h]
    rfl⟩
  obtain ⟨e0, e1, e2, e3, e4, e5, e6, e7, e8, e9, e10⟩ := HE.out; simp only at e0 e1 e2 e3 e4 e5 e6 e7 e8 e9 e10
  go_wp2_with fail
  refine (numbers_named _ _ 4 [tk, ep, tx, lg] _ q1 rfl (C_lit .i64 _ _ _ _ rfl (by simp)) (by omega) HQ1.out).mono ?_
  rintro e w2 ⟨rfl, hb_⟩
  replace hb_ := below_step (below_alloc (Below.refl _ _) _) hb_
  clear e0 e1 e2 e3 e4 e5 e6 e7 e8 e9 e10
  have n0_ := Aside0.mk (below_step HB.out hb_); have n1_ := Aside0.mk (HE.out.below hb_); have n2_ := Aside0.mk (Kd.C_below HC9.out hb_); have n3_ := Aside0.mk (Kd.C_below HC10.out hb_); clear HB; clear HE; clear HC9; clear HC10; have HB := n0_; have HE := n1_; have HC9 := n2_; have HC10 := n3_; clear n0_ n1_ n2_ n3_; clear hb_
  cases q1 with
  | false =>
    obtain rfl : r = false := HRF.out rfl
    go_wp2
    go_ret
    exact ⟨rfl, HB.out⟩
  | true =>
  obtain ⟨e0, e1, e2, e3, e4, e5, e6, e7, e8, e9, e10⟩ := HE.out; simp only at e0 e1 e2 e3 e4 e5 e6 e7 e8 e9 e10
  go_wp2_with fail
  refine (numbers_named A9 c9 n9 l9 _ q2 H9.out HC9.out hc9 HQ2.out).mono ?_
  rintro e w3 ⟨rfl, hb_⟩
  clear e0 e1 e2 e3 e4 e5 e6 e7 e8 e9 e10
  have n0_ := Aside0.mk (below_step HB.out hb_); have n1_ := Aside0.mk (HE.out.below hb_); have n2_ := Aside0.mk (Kd.C_below HC9.out hb_); have n3_ := Aside0.mk (Kd.C_below HC10.out hb_); clear HB; clear HE; clear HC9; clear HC10; have HB := n0_; have HE := n1_; have HC9 := n2_; have HC10 := n3_; clear n0_ n1_ n2_ n3_; clear hb_
  cases q2 with
  | false =>
    obtain rfl : r = false := HRF.out rfl
    go_wp2
    go_ret
    exact ⟨rfl, HB.out⟩
  | true =>
  obtain ⟨e0, e1, e2, e3, e4, e5, e6, e7, e8, e9, e10⟩ := HE.out; simp only at e0 e1 e2 e3 e4 e5 e6 e7 e8 e9 e10
  go_wp2_with fail
  refine (numbers_named A10 c10 n10 l10 _ q3 H10.out HC10.out hc10 HQ3.out).mono ?_
  rintro e w4 ⟨rfl, hb_⟩
  clear e0 e1 e2 e3 e4 e5 e6 e7 e8 e9 e10
  have n0_ := Aside0.mk (below_step HB.out hb_); have n1_ := Aside0.mk (HE.out.below hb_); have n2_ := Aside0.mk (Kd.C_below HC9.out hb_); have n3_ := Aside0.mk (Kd.C_below HC10.out hb_); clear HB; clear HE; clear HC9; clear HC10; have HB := n0_; have HE := n1_; have HC9 := n2_; have HC10 := n3_; clear n0_ n1_ n2_ n3_; clear hb_
  cases q3 with
  | false =>
    obtain rfl : r = false := HRF.out rfl
    go_wp2
    go_ret
    exact ⟨rfl, HB.out⟩
  | true =>
  obtain ⟨e0, e1, e2, e3, e4, e5, e6, e7, e8, e9, e10⟩ := HE.out; simp only at e0 e1 e2 e3 e4 e5 e6 e7 e8 e9 e10
  go_wp2_with fail
  refine (time_ok tm _).mono ?_
  rintro e w5 ⟨he_, hb_⟩
  rw [HQ4.out] at he_
  subst he_
  clear e0 e1 e2 e3 e4 e5 e6 e7 e8 e9 e10
  have n0_ := Aside0.mk (below_step HB.out hb_); have n1_ := Aside0.mk (HE.out.below hb_); have n2_ := Aside0.mk (Kd.C_below HC9.out hb_); have n3_ := Aside0.mk (Kd.C_below HC10.out hb_); clear HB; clear HE; clear HC9; clear HC10; have HB := n0_; have HE := n1_; have HC9 := n2_; have HC10 := n3_; clear n0_ n1_ n2_ n3_; clear hb_
  cases q4 with
  | false =>
    obtain rfl : r = false := HRF.out rfl
    go_wp2
    go_ret
    exact ⟨rfl, HB.out⟩
  | true =>
  by_cases h3 : 8 < n9
  · have h3a : decide ((8 : Int) < (n9 : Int)) = true := by simp; omega
    have h3b : decide (8 < n9) = true := by simp; omega
    obtain rfl : r = false := HRF.out (by simp; omega)
    obtain ⟨e0, e1, e2, e3, e4, e5, e6, e7, e8, e9, e10⟩ := HE.out; simp only at e0 e1 e2 e3 e4 e5 e6 e7 e8 e9 e10
    go_wp2
    go_ret
    exact ⟨rfl, HB.out⟩
  have h3a : decide ((8 : Int) < (n9 : Int)) = false := by simp; omega
  have h3b : decide (8 < n9) = false := by simp; omega
  by_cases h4 : 256 < n10
  · have h4a : decide ((256 : Int) < (n10 : Int)) = true := by simp; omega
    have h4b : decide (256 < n10) = true := by simp; omega
    obtain rfl : r = false := HRF.out (by simp; omega)
    obtain ⟨e0, e1, e2, e3, e4, e5, e6, e7, e8, e9, e10⟩ := HE.out; simp only at e0 e1 e2 e3 e4 e5 e6 e7 e8 e9 e10
    go_wp2
    go_ret
    exact ⟨rfl, HB.out⟩
  have h4a : decide ((256 : Int) < (n10 : Int)) = false := by simp; omega
  have h4b : decide (256 < n10) = false := by simp; omega
  obtain ⟨q5, HQ5⟩ : ∃ q, Aside0 (decide ((ky, vl, tm) ≠ (0, 0, 0)) = q) := ⟨_, ⟨rfl⟩⟩
  obtain ⟨e0, e1, e2, e3, e4, e5, e6, e7, e8, e9, e10⟩ := HE.out; simp only at e0 e1 e2 e3 e4 e5 e6 e7 e8 e9 e10
  go_upto_region 4 with fail
  clear e0 e1 e2 e3 e4 e5 e6 e7 e8 e9 e10
  refine start_ (n := 37) (S := fun w' => Below w5.heap.size w5 w') (ds := []) #[false, false, false, false, false, false, false, false, false, false, false, false, false, false, false, false, false, false, false, false, false, false, false, false, false, false, false, false, false, false, false, false, false, false, false, false, false] (by kernel_rfl) rfl rfl (below_drew (Below.refl _ _)) (fun hHeld => ?_)
  refine pure_ (i := 1) (N := some 59) (v := ?_) (a' := ?_) #[false, true, false, false, false, false, false, false, false, false, false, false, false, false, false, false, false, false, false, false, false, false, false, false, false, false, false, false, false, false, false, false, false, false, false, false, false] rfl rfl (by kernel_rfl) (fun _ _ _ h => h) (Or.inl ⟨by rfl, ?_⟩) ?_ ?_
  rotate_left
  · intro w'
    go_simp
    with_reducible rfl
  rotate_left
  · simp only [Act.put, List.setIfInBounds_toArray, List.set_cons_zero, List.set_cons_succ, i64_w, i32_w]
    rfl
  refine pure_ (i := 5) (N := some 62) (v := ?_) (a' := ?_) #[false, true, false, false, false, true, false, false, false, false, false, false, false, false, false, false, false, false, false, false, false, false, false, false, false, false, false, false, false, false, false, false, false, false, false, false, false] rfl rfl (by kernel_rfl) (fun _ _ _ h => h) (Or.inl ⟨by rfl, ?_⟩) ?_ ?_
  rotate_left
  · intro w'
    go_simp
    with_reducible rfl
  rotate_left
  · simp only [Act.put, List.setIfInBounds_toArray, List.set_cons_zero, List.set_cons_succ, i64_w, i32_w]
    rfl
  refine pure_ (i := 9) (N := some 65) (v := ?_) (a' := ?_) #[false, true, false, false, false, true, false, false, false, true, false, false, false, false, false, false, false, false, false, false, false, false, false, false, false, false, false, false, false, false, false, false, false, false, false, false, false] rfl rfl (by kernel_rfl) (fun _ _ _ h => h) (Or.inl ⟨by rfl, ?_⟩) ?_ ?_
  rotate_left
  · intro w'
    go_simp
    with_reducible rfl
  rotate_left
  · simp only [Act.put, List.setIfInBounds_toArray, List.set_cons_zero, List.set_cons_succ, i64_w, i32_w]
    rfl
  refine pure_ (i := 13) (N := some 68) (v := ?_) (a' := ?_) #[false, true, false, false, false, true, false, false, false, true, false, false, false, true, false, false, false, false, false, false, false, false, false, false, false, false, false, false, false, false, false, false, false, false, false, false, false] rfl rfl (by kernel_rfl) (fun _ _ _ h => h) (Or.inl ⟨by rfl, ?_⟩) ?_ ?_
  rotate_left
  · intro w'
    go_simp
    with_reducible rfl
  rotate_left
  · simp only [Act.put, List.setIfInBounds_toArray, List.set_cons_zero, List.set_cons_succ, i64_w, i32_w]
    rfl
  refine pure_ (i := 17) (N := some 71) (v := ?_) (a' := ?_) #[false, true, false, false, false, true, false, false, false, true, false, false, false, true, false, false, false, true, false, false, false, false, false, false, false, false, false, false, false, false, false, false, false, false, false, false, false] rfl rfl (by kernel_rfl) (fun _ _ _ h => h) (Or.inl ⟨by rfl, ?_⟩) ?_ ?_
  rotate_left
  · intro w'
    go_simp
    with_reducible rfl
  rotate_left
  · simp only [Act.put, List.setIfInBounds_toArray, List.set_cons_zero, List.set_cons_succ, i64_w, i32_w]
    rfl
  refine pure_ (i := 19) (N := some 73) (v := ?_) (a' := ?_) #[false, true, false, false, false, true, false, false, false, true, false, false, false, true, false, false, false, true, false, true, false, false, false, false, false, false, false, false, false, false, false, false, false, false, false, false, false] rfl rfl (by kernel_rfl) (fun _ _ _ h => h) (Or.inl ⟨by rfl, ?_⟩) ?_ ?_
  rotate_left
  · intro w'
    go_simp
    with_reducible rfl
  rotate_left
  · simp only [Act.put, List.setIfInBounds_toArray, List.set_cons_zero, List.set_cons_succ, i64_w, i32_w]
    rfl
  refine pure_ (i := 22) (N := some 75) (v := ?_) (a' := ?_) #[false, true, false, false, false, true, false, false, false, true, false, false, false, true, false, false, false, true, false, true, false, false, true, false, false, false, false, false, false, false, false, false, false, false, false, false, false] rfl rfl (by kernel_rfl) (fun _ _ _ h => h) (Or.inl ⟨by rfl, ?_⟩) ?_ ?_
  rotate_left
  · intro w'
    go_simp
    with_reducible rfl
  rotate_left
  · simp only [Act.put, List.setIfInBounds_toArray, List.set_cons_zero, List.set_cons_succ, i64_w, i32_w]
    rfl
  refine pure_ (i := 25) (N := some 77) (v := ?_) (a' := ?_) #[false, true, false, false, false, true, false, false, false, true, false, false, false, true, false, false, false, true, false, true, false, false, true, false, false, true, false, false, false, false, false, false, false, false, false, false, false] rfl rfl (by kernel_rfl) (fun _ _ _ h => h) (Or.inl ⟨by rfl, ?_⟩) ?_ ?_
  rotate_left
  · intro w'
    go_simp
    with_reducible rfl
  rotate_left
  · simp only [Act.put, List.setIfInBounds_toArray, List.set_cons_zero, List.set_cons_succ, i64_w, i32_w]
    rfl
  refine pure_ (i := 30) (N := some 81) (v := ?_) (a' := ?_) #[false, true, false, false, false, true, false, false, false, true, false, false, false, true, false, false, false, true, false, true, false, false, true, false, false, true, false, false, false, false, true, false, false, false, false, false, false] rfl rfl (by kernel_rfl) (fun _ _ _ h => h) (Or.inl ⟨by rfl, ?_⟩) ?_ ?_
  rotate_left
  · intro w'
    go_simp
    with_reducible rfl
  rotate_left
  · simp only [Act.put, List.setIfInBounds_toArray, List.set_cons_zero, List.set_cons_succ, i64_w, i32_w]
    rfl
  refine take_ (i := 2) (N := some 60) (v := ?_) (a' := ?_) #[false, true, true, false, false, true, false, false, false, true, false, false, false, true, false, false, false, true, false, true, false, false, true, false, false, true, false, false, false, false, true, false, false, false, false, false, false] rfl rfl (by kernel_rfl) (fun _ _ _ h => h) (Or.inl ⟨by rfl, ?_⟩) hHeld ?_ ?_
  rotate_left
  · intro w' hS
    have c_ : w'.cell? ⟨w.heap.size, 1, none⟩ = some (.int .i64 tk) := (HE.out.below hS).c1
    go_simp
    with_reducible rfl
  rotate_left
  · simp only [Act.put, List.setIfInBounds_toArray, List.set_cons_zero, List.set_cons_succ, i64_w, i32_w]
    rfl
  refine pure_ (i := 3) (N := some 61) (v := ?_) (a' := ?_) #[false, true, true, true, false, true, false, false, false, true, false, false, false, true, false, false, false, true, false, true, false, false, true, false, false, true, false, false, false, false, true, false, false, false, false, false, false] rfl rfl (by kernel_rfl) (fun _ _ _ h => h) (Or.inl ⟨by rfl, ?_⟩) ?_ ?_
  rotate_left
  · intro w'
    go_simp
    with_reducible rfl
  rotate_left
  · simp only [Act.put, List.setIfInBounds_toArray, List.set_cons_zero, List.set_cons_succ, i64_w, i32_w]
    rfl
  refine take_ (i := 6) (N := some 63) (v := ?_) (a' := ?_) #[false, true, true, true, false, true, true, false, false, true, false, false, false, true, false, false, false, true, false, true, false, false, true, false, false, true, false, false, false, false, true, false, false, false, false, false, false] rfl rfl (by kernel_rfl) (fun _ _ _ h => h) (Or.inl ⟨by rfl, ?_⟩) hHeld ?_ ?_
  rotate_left
  · intro w' hS
    have c_ : w'.cell? ⟨w.heap.size, 2, none⟩ = some (.int .i64 ep) := (HE.out.below hS).c2
    go_simp
    with_reducible rfl
  rotate_left
  · simp only [Act.put, List.setIfInBounds_toArray, List.set_cons_zero, List.set_cons_succ, i64_w, i32_w]
    rfl
  refine pure_ (i := 7) (N := some 64) (v := ?_) (a' := ?_) #[false, true, true, true, false, true, true, true, false, true, false, false, false, true, false, false, false, true, false, true, false, false, true, false, false, true, false, false, false, false, true, false, false, false, false, false, false] rfl rfl (by kernel_rfl) (fun _ _ _ h => h) (Or.inl ⟨by rfl, ?_⟩) ?_ ?_
  rotate_left
  · intro w'
    go_simp
    with_reducible rfl
  rotate_left
  · simp only [Act.put, List.setIfInBounds_toArray, List.set_cons_zero, List.set_cons_succ, i64_w, i32_w]
    rfl
  refine take_ (i := 10) (N := some 66) (v := ?_) (a' := ?_) #[false, true, true, true, false, true, true, true, false, true, true, false, false, true, false, false, false, true, false, true, false, false, true, false, false, true, false, false, false, false, true, false, false, false, false, false, false] rfl rfl (by kernel_rfl) (fun _ _ _ h => h) (Or.inl ⟨by rfl, ?_⟩) hHeld ?_ ?_
  rotate_left
  · intro w' hS
    have c_ : w'.cell? ⟨w.heap.size, 3, none⟩ = some (.int .i64 tx) := (HE.out.below hS).c3
    go_simp
    with_reducible rfl
  rotate_left
  · simp only [Act.put, List.setIfInBounds_toArray, List.set_cons_zero, List.set_cons_succ, i64_w, i32_w]
    rfl
  refine pure_ (i := 11) (N := some 67) (v := ?_) (a' := ?_) #[false, true, true, true, false, true, true, true, false, true, true, true, false, true, false, false, false, true, false, true, false, false, true, false, false, true, false, false, false, false, true, false, false, false, false, false, false] rfl rfl (by kernel_rfl) (fun _ _ _ h => h) (Or.inl ⟨by rfl, ?_⟩) ?_ ?_
  rotate_left
  · intro w'
    go_simp
    with_reducible rfl
  rotate_left
  · simp only [Act.put, List.setIfInBounds_toArray, List.set_cons_zero, List.set_cons_succ, i64_w, i32_w]
    rfl
  refine take_ (i := 14) (N := some 69) (v := ?_) (a' := ?_) #[false, true, true, true, false, true, true, true, false, true, true, true, false, true, true, false, false, true, false, true, false, false, true, false, false, true, false, false, false, false, true, false, false, false, false, false, false] rfl rfl (by kernel_rfl) (fun _ _ _ h => h) (Or.inl ⟨by rfl, ?_⟩) hHeld ?_ ?_
  rotate_left
  · intro w' hS
    have c_ : w'.cell? ⟨w.heap.size, 4, none⟩ = some (.int .i64 lg) := (HE.out.below hS).c4
    go_simp
    with_reducible rfl
  rotate_left
  · simp only [Act.put, List.setIfInBounds_toArray, List.set_cons_zero, List.set_cons_succ, i64_w, i32_w]
    rfl
  refine pure_ (i := 15) (N := some 70) (v := ?_) (a' := ?_) #[false, true, true, true, false, true, true, true, false, true, true, true, false, true, true, true, false, true, false, true, false, false, true, false, false, true, false, false, false, false, true, false, false, false, false, false, false] rfl rfl (by kernel_rfl) (fun _ _ _ h => h) (Or.inl ⟨by rfl, ?_⟩) ?_ ?_
  rotate_left
  · intro w'
    go_simp
    with_reducible rfl
  rotate_left
  · simp only [Act.put, List.setIfInBounds_toArray, List.set_cons_zero, List.set_cons_succ, i64_w, i32_w]
    rfl
  refine take_ (i := 18) (N := some 72) (v := ?_) (a' := ?_) #[false, true, true, true, false, true, true, true, false, true, true, true, false, true, true, true, false, true, true, true, false, false, true, false, false, true, false, false, false, false, true, false, false, false, false, false, false] rfl rfl (by kernel_rfl) (fun _ _ _ h => h) (Or.inl ⟨by rfl, ?_⟩) hHeld ?_ ?_
  rotate_left
  · intro w' hS
    have c_ : w'.cell? ⟨w.heap.size, 5, none⟩ = some (.int .i64 ky) := (HE.out.below hS).c5
    have d_ : w'.cell? ⟨w.heap.size, 6, none⟩ = some (.int .i64 vl) := (HE.out.below hS).c6
    have f_ : w'.cell? ⟨w.heap.size, 7, none⟩ = some (.int .i64 tm) := (HE.out.below hS).c7
    go_simp
    with_reducible rfl
  rotate_left
  · simp only [Act.put, List.setIfInBounds_toArray, List.set_cons_zero, List.set_cons_succ, i64_w, i32_w]
    rfl
  refine pure_ (i := 20) (N := some 74) (v := ?_) (a' := ?_) #[false, true, true, true, false, true, true, true, false, true, true, true, false, true, true, true, false, true, true, true, true, false, true, false, false, true, false, false, false, false, true, false, false, false, false, false, false] rfl rfl (by kernel_rfl) (fun _ _ _ h => h) (Or.inl ⟨by rfl, ?_⟩) ?_ ?_
  rotate_left
  · intro w'
    go_simp
    have h_ := rec_ne w' ky vl tm
    rw [HQ5.out] at h_
    exact h_
  rotate_left
  · simp only [Act.put, List.setIfInBounds_toArray, List.set_cons_zero, List.set_cons_succ, i64_w, i32_w]
    rfl
  refine take_ (i := 23) (N := some 76) (v := ?_) (a' := ?_) #[false, true, true, true, false, true, true, true, false, true, true, true, false, true, true, true, false, true, true, true, true, false, true, true, false, true, false, false, false, false, true, false, false, false, false, false, false] rfl rfl (by kernel_rfl) (fun _ _ _ h => h) (Or.inl ⟨by rfl, ?_⟩) hHeld ?_ ?_
  rotate_left
  · intro w' hS
    have c_ : w'.cell? ⟨w.heap.size, 8, none⟩ = some (.bool dl) := (HE.out.below hS).c8
    go_simp
    with_reducible rfl
  rotate_left
  · simp only [Act.put, List.setIfInBounds_toArray, List.set_cons_zero, List.set_cons_succ, i64_w, i32_w]
    rfl
  refine take_ (i := 26) (N := some 78) (v := ?_) (a' := ?_) #[false, true, true, true, false, true, true, true, false, true, true, true, false, true, true, true, false, true, true, true, true, false, true, true, false, true, true, false, false, false, true, false, false, false, false, false, false] rfl rfl (by kernel_rfl) (fun _ _ _ h => h) (Or.inl ⟨by rfl, ?_⟩) hHeld ?_ ?_
  rotate_left
  · intro w' hS
    have c_ : w'.cell? ⟨w.heap.size, 9, none⟩ = some (.slice A9 n9 c9) := (HE.out.below hS).c9
    go_simp
    with_reducible rfl
  rotate_left
  · simp only [Act.put, List.setIfInBounds_toArray, List.set_cons_zero, List.set_cons_succ, i64_w, i32_w]
    rfl
  refine pure_ (i := 27) (N := some 79) (v := ?_) (a' := ?_) #[false, true, true, true, false, true, true, true, false, true, true, true, false, true, true, true, false, true, true, true, true, false, true, true, false, true, true, true, false, false, true, false, false, false, false, false, false] rfl rfl (by kernel_rfl) (fun _ _ _ h => h) (Or.inl ⟨by rfl, ?_⟩) ?_ ?_
  rotate_left
  · intro w'
    go_simp
    with_reducible rfl
  rotate_left
  · simp only [Act.put, List.setIfInBounds_toArray, List.set_cons_zero, List.set_cons_succ, i64_w, i32_w]
    rfl
  refine pure_ (i := 28) (N := some 80) (v := ?_) (a' := ?_) #[false, true, true, true, false, true, true, true, false, true, true, true, false, true, true, true, false, true, true, true, true, false, true, true, false, true, true, true, true, false, true, false, false, false, false, false, false] rfl rfl (by kernel_rfl) (fun _ _ _ h => h) (Or.inl ⟨by rfl, ?_⟩) ?_ ?_
  rotate_left
  · intro w'
    go_simp
    with_reducible rfl
  rotate_left
  · simp only [Act.put, List.setIfInBounds_toArray, List.set_cons_zero, List.set_cons_succ, i64_w, i32_w]
    rfl
  refine take_ (i := 31) (N := some 82) (v := ?_) (a' := ?_) #[false, true, true, true, false, true, true, true, false, true, true, true, false, true, true, true, false, true, true, true, true, false, true, true, false, true, true, true, true, false, true, true, false, false, false, false, false] rfl rfl (by kernel_rfl) (fun _ _ _ h => h) (Or.inl ⟨by rfl, ?_⟩) hHeld ?_ ?_
  rotate_left
  · intro w' hS
    have c_ : w'.cell? ⟨w.heap.size, 10, none⟩ = some (.slice A10 n10 c10) := (HE.out.below hS).c10
    go_simp
    with_reducible rfl
  rotate_left
  · simp only [Act.put, List.setIfInBounds_toArray, List.set_cons_zero, List.set_cons_succ, i64_w, i32_w]
    rfl
  refine pure_ (i := 32) (N := some 83) (v := ?_) (a' := ?_) #[false, true, true, true, false, true, true, true, false, true, true, true, false, true, true, true, false, true, true, true, true, false, true, true, false, true, true, true, true, false, true, true, true, false, false, false, false] rfl rfl (by kernel_rfl) (fun _ _ _ h => h) (Or.inl ⟨by rfl, ?_⟩) ?_ ?_
  rotate_left
  · intro w'
    go_simp
    with_reducible rfl
  rotate_left
  · simp only [Act.put, List.setIfInBounds_toArray, List.set_cons_zero, List.set_cons_succ, i64_w, i32_w]
    rfl
  refine pure_ (i := 33) (N := some 84) (v := ?_) (a' := ?_) #[false, true, true, true, false, true, true, true, false, true, true, true, false, true, true, true, false, true, true, true, true, false, true, true, false, true, true, true, true, false, true, true, true, true, false, false, false] rfl rfl (by kernel_rfl) (fun _ _ _ h => h) (Or.inl ⟨by rfl, ?_⟩) ?_ ?_
  rotate_left
  · intro w'
    go_simp
    with_reducible rfl
  rotate_left
  · simp only [Act.put, List.setIfInBounds_toArray, List.set_cons_zero, List.set_cons_succ, i64_w, i32_w]
    rfl
  refine one_ (i := 0) (N := some 58) #[true, true, true, true, false, true, true, true, false, true, true, true, false, true, true, true, false, true, true, true, true, false, true, true, false, true, true, true, true, false, true, true, true, true, false, false, false] rfl rfl (by kernel_rfl) (by simp) (fun K hK => ?_)
  refine value_ (w1 := w5.drew.alloc (.map #[] 0)) (v := .map (some w5.drew.heap.size)) (by rfl) rfl (by rfl) ?_
  have hb_ := below_alloc (Below.refl w5.drew.heap.size w5.drew) (.map #[] 0)
  replace hb_ := below_step hHeld hb_
  refine hK.out _ _ hb_ (fun _ => ?_)
  clear hK K
  refine norm_ (a' := ?_) ?_ ?_
  rotate_left
  · show Act.put _ (some 58) _ = _
    simp only [Act.put, List.setIfInBounds_toArray, List.set_cons_zero, List.set_cons_succ, i64_w, i32_w]
    rfl
  have HI := Aside0.mk (MInv.start (bsOf tk ep tx lg q5 dl n9 n10) w5 w5.drew (below_drew (Below.refl _ _)))
  replace hHeld := hb_
  clear hb_
  refine shuffle (I := [4, 8, 12, 16, 21, 24, 29, 34]) (n := 37) (base := #[true, true, true, true, false, true, true, true, false, true, true, true, false, true, true, true, false, true, true, true, true, false, true, true, false, true, true, true, true, false, true, true, true, true, false, false, false]) #[true, true, true, true, true, true, true, true, true, true, true, true, true, true, true, true, true, true, true, true, true, true, true, true, true, true, true, true, true, true, true, true, true, true, true, false, false] (MInv (bsOf tk ep tx lg q5 dl n9 n10) w5 w5.heap.size) _ rfl (by decide) (fun _ _ h => h.1) ?_ 2 ?_ 8 [4, 8, 12, 16, 21, 24, 29, 34] #[true, true, true, true, false, true, true, true, false, true, true, true, false, true, true, true, false, true, true, true, true, false, true, true, false, true, true, true, true, false, true, true, true, true, false, false, false] _ rfl (fun _ h => h) ?hmid HI.out
  case hmid =>
    refine Mid.start (n := 37) ?_ ?_
    · decide
    · kernel_rfl
  · intro J j w_ hj hJ hn hI
    have h8 := hJ j hj
    simp only [List.mem_cons, List.not_mem_nil, or_false] at h8
    rcases h8 with rfl | rfl | rfl | rfl | rfl | rfl | rfl | rfl
    · obtain ⟨w2_, hrun, hI2, _⟩ := hI.insert (Nat.le_refl _) hI.1.size hn (j := 0) (by decide) hj
      simp only [bsOf, List.getD_cons_zero, List.getD_cons_succ] at hrun
      rw [show ((2 ^ 0 : Nat) : Int) = 1 from by decide] at hrun
      refine wpOp_step rfl (fun K hK => ?_)
      refine skip_ (w1 := w2_) (by rfl) rfl (by simp [execOp, Act.eval, hrun, Result.andThen]) ?_
      exact hK _ _ ⟨rfl, hI2⟩
    · obtain ⟨w2_, hrun, hI2, _⟩ := hI.insert (Nat.le_refl _) hI.1.size hn (j := 1) (by decide) hj
      simp only [bsOf, List.getD_cons_zero, List.getD_cons_succ] at hrun
      rw [show ((2 ^ 1 : Nat) : Int) = 2 from by decide] at hrun
      refine wpOp_step rfl (fun K hK => ?_)
      refine skip_ (w1 := w2_) (by rfl) rfl (by simp [execOp, Act.eval, hrun, Result.andThen]) ?_
      exact hK _ _ ⟨rfl, hI2⟩
    · obtain ⟨w2_, hrun, hI2, _⟩ := hI.insert (Nat.le_refl _) hI.1.size hn (j := 2) (by decide) hj
      simp only [bsOf, List.getD_cons_zero, List.getD_cons_succ] at hrun
      rw [show ((2 ^ 2 : Nat) : Int) = 4 from by decide] at hrun
      refine wpOp_step rfl (fun K hK => ?_)
      refine skip_ (w1 := w2_) (by rfl) rfl (by simp [execOp, Act.eval, hrun, Result.andThen]) ?_
      exact hK _ _ ⟨rfl, hI2⟩
    · obtain ⟨w2_, hrun, hI2, _⟩ := hI.insert (Nat.le_refl _) hI.1.size hn (j := 3) (by decide) hj
      simp only [bsOf, List.getD_cons_zero, List.getD_cons_succ] at hrun
      rw [show ((2 ^ 3 : Nat) : Int) = 8 from by decide] at hrun
      refine wpOp_step rfl (fun K hK => ?_)
      refine skip_ (w1 := w2_) (by rfl) rfl (by simp [execOp, Act.eval, hrun, Result.andThen]) ?_
      exact hK _ _ ⟨rfl, hI2⟩
    · obtain ⟨w2_, hrun, hI2, _⟩ := hI.insert (Nat.le_refl _) hI.1.size hn (j := 4) (by decide) hj
      simp only [bsOf, List.getD_cons_zero, List.getD_cons_succ] at hrun
      rw [show ((2 ^ 4 : Nat) : Int) = 16 from by decide] at hrun
      refine wpOp_step rfl (fun K hK => ?_)
      refine skip_ (w1 := w2_) (by rfl) rfl (by simp [execOp, Act.eval, hrun, Result.andThen]) ?_
      exact hK _ _ ⟨rfl, hI2⟩
    · obtain ⟨w2_, hrun, hI2, _⟩ := hI.insert (Nat.le_refl _) hI.1.size hn (j := 5) (by decide) hj
      simp only [bsOf, List.getD_cons_zero, List.getD_cons_succ] at hrun
      rw [show ((2 ^ 5 : Nat) : Int) = 32 from by decide] at hrun
      refine wpOp_step rfl (fun K hK => ?_)
      refine skip_ (w1 := w2_) (by rfl) rfl (by simp [execOp, Act.eval, hrun, Result.andThen]) ?_
      exact hK _ _ ⟨rfl, hI2⟩
    · obtain ⟨w2_, hrun, hI2, _⟩ := hI.insert (Nat.le_refl _) hI.1.size hn (j := 6) (by decide) hj
      simp only [bsOf, List.getD_cons_zero, List.getD_cons_succ] at hrun
      rw [show ((2 ^ 6 : Nat) : Int) = 64 from by decide] at hrun
      refine wpOp_step rfl (fun K hK => ?_)
      refine skip_ (w1 := w2_) (by rfl) rfl (by simp [execOp, Act.eval, hrun, Result.andThen]) ?_
      exact hK _ _ ⟨rfl, hI2⟩
    · obtain ⟨w2_, hrun, hI2, _⟩ := hI.insert (Nat.le_refl _) hI.1.size hn (j := 7) (by decide) hj
      simp only [bsOf, List.getD_cons_zero, List.getD_cons_succ] at hrun
      rw [show ((2 ^ 7 : Nat) : Int) = 128 from by decide] at hrun
      refine wpOp_step rfl (fun K hK => ?_)
      refine skip_ (w1 := w2_) (by rfl) rfl (by simp [execOp, Act.eval, hrun, Result.andThen]) ?_
      exact hK _ _ ⟨rfl, hI2⟩
  intro w6 hI6
  replace HI := Aside0.mk hI6
  clear hI6 hHeld
  have hHeld := HI.out.1
  refine pure_ (i := 35) (N := some 85) (v := ?_) (a' := ?_) #[true, true, true, true, true, true, true, true, true, true, true, true, true, true, true, true, true, true, true, true, true, true, true, true, true, true, true, true, true, true, true, true, true, true, true, true, false] rfl rfl (by kernel_rfl) (fun _ _ _ h => h) (Or.inl ⟨by rfl, ?_⟩) ?_ ?_
  rotate_left
  · intro w'
    go_simp
    with_reducible rfl
  rotate_left
  · simp only [Act.put, List.setIfInBounds_toArray, List.set_cons_zero, List.set_cons_succ, i64_w, i32_w]
    rfl
  refine one_ (i := 36) (N := some 86) #[true, true, true, true, true, true, true, true, true, true, true, true, true, true, true, true, true, true, true, true, true, true, true, true, true, true, true, true, true, true, true, true, true, true, true, true, true] rfl rfl (by kernel_rfl) (by simp) (fun K hK => ?_)
  obtain ⟨_, D, m_, hm_, ho_, hv_⟩ := HI.out
  obtain ⟨w7, hrun, hr1_, hg_, hs_⟩ := ho_.range K3 Try.underlying91
  refine value_ (w1 := w7) (v := .pointer (some ⟨w6.heap.size, 0, none⟩)) (by rfl) rfl (by simp [execOp, Act.eval, hrun, Result.andThen]) ?_
  have hb_ : Below w5.heap.size w5 w7 := (below_step hHeld (Below.refl _ _)).grown hg_ hHeld.size (fun _ h => by cases h)
  refine hK.out _ _ hb_ (fun _ => ?_)
  clear hK K
  refine norm_ (a' := ?_) ?_ ?_
  rotate_left
  · show Act.put _ (some 86) _ = _
    simp only [Act.put, List.setIfInBounds_toArray, List.set_cons_zero, List.set_cons_succ, i64_w, i32_w]
    rfl
  clear hb_
  refine done_ (by kernel_rfl) ?_

  have HU : Aside0 (URel (bsOf tk ep tx lg q5 dl n9 n10) (Maps.has D) 0) := ⟨URel.start hv_⟩
  have HRG := Aside0.mk hr1_
  have HB7 : Aside0 (Below w5.heap.size w5 w7) := ⟨hHeld.grown hg_ hHeld.size (fun _ h => by cases h)⟩
  have HV := Aside0.mk hv_
  have HSZ : Aside0 (w5.heap.size ≤ w6.heap.size) := ⟨HI.out.1.size⟩
  clear hHeld HI ho_ hv_ hr1_ hg_ hs_ hrun
  have HRR : Aside0 (w5.heap.size ≤ w6.heap.size) := ⟨HSZ.out⟩
  generalize w6.heap.size = r_ at HRG HRR ⊢
  go_wp2_with fail
  go_loopw [3] (fun v3 wr => ∃ (u : Nat) (left : Lit → Bool) (cnt : Nat), v3 = .int .i64 (u : Int) ∧ Aside0 (wr.ranges Try.prog 3 (plainElem Try.prog 4) w5.heap.size r_ m_ D left cnt) ∧ Aside0 (Below w5.heap.size w5 wr) ∧ Aside0 (URel (bsOf tk ep tx lg q5 dl n9 n10) left u)) (fun _ wr => wr.rangeLeft w5.heap.size r_)
  case atStart => exact ⟨0, _, _, rfl, HRG, HB7, HU⟩
  case round =>
    clear HRG HB7 HU
    obtain ⟨u, left, cnt, rfl, HRG, HB7, HU⟩ := hrel
    go_wp2_with (at_next; refine next_marks _ rfl _ rfl HV.out w5.heap.size r_ _ _ _ HU.out rfl HRG.out ?_ ?_)
    · intro HD
      have HBR := Aside0.mk (below_step HB.out HB7.out)
      have HE5 := Aside0.mk (HE.out.below HB7.out)
      have HFIN : Aside0 (∀ kk : Nat, kk < 7 → k = (kk : Int) → r = (Go.bits .andNot .i64 (u : Int) ((kinds.getD kk 0 : Nat) : Int) == 0)) := ⟨fun kk hkk hk => by
        rw [andNot_bits u kk HU.out.lt hkk, ← HR.out]
        unfold may
        rw [HM0.out]
        have e1 : decide (n9 ≤ 8) = true := by simpa using h3b
        have e2 : decide (n10 ≤ 256) = true := by simpa using h4b
        rw [e1, e2, hk, Int.toNat_natCast]
        simp only [Bool.and_true, Bool.true_and]
        refine all_congr (fun i hi => ?_)
        have hi8 : i < 8 := List.mem_range.1 hi
        rw [HD.out, mask_bit, has_bs HQ5.out H9.out H10.out i hi]
        simp [hi8]⟩
      clear HD HU HRG HB7 HE HB HV HQ5 HM0 HRF HR HQ1 HQ2 HQ3 HQ4 HQ1'
      obtain rfl | rfl | rfl | rfl | rfl | rfl : k = 1 ∨ k = 2 ∨ k = 3 ∨ k = 4 ∨ k = 5 ∨ k = 6 := by omega
      · have ix : ∀ w, (Instr.index 92 (.agg #[.int .i64 0, .int .i64 24, .int .i64 63, .int .i64 199, .int .i64 7, .int .i64 3, .int .i64 0]) (.int .i64 1)).run Try.prog w = .ok (.int .i64 24) w := fun _ => by kernel_rfl
        have hfin : (Go.bits .andNot .i64 (u : Int) 24 == 0) = r := (HFIN.out 1 (by decide) rfl).symm
        go_wp2_with fail
        refine start_ (n := 8) (S := fun w' => Below wr.heap.size wr w') (ds := []) #[false, false, false, false, false, false, false, false] (by kernel_rfl) rfl rfl (below_drew (Below.refl _ _)) (fun hHeld => ?_)
        refine pure_ (i := 0) (N := some 96) (v := ?_) (a' := ?_) #[true, false, false, false, false, false, false, false] rfl rfl (by kernel_rfl) (fun _ _ _ h => h) (Or.inl ⟨by rfl, ?_⟩) ?_ ?_
        rotate_left
        · intro w'
          go_simp
          with_reducible rfl
        rotate_left
        · simp only [Act.put, List.setIfInBounds_toArray, List.set_cons_zero, List.set_cons_succ, i64_w, i32_w]
          rfl
        refine pure_ (i := 2) (N := some 98) (v := ?_) (a' := ?_) #[true, false, true, false, false, false, false, false] rfl rfl (by kernel_rfl) (fun _ _ _ h => h) (Or.inl ⟨by rfl, ?_⟩) ?_ ?_
        rotate_left
        · intro w'
          go_simp
          with_reducible rfl
        rotate_left
        · simp only [Act.put, List.setIfInBounds_toArray, List.set_cons_zero, List.set_cons_succ, i64_w, i32_w]
          rfl
        refine take_ (i := 3) (N := some 99) (v := ?_) (a' := ?_) #[true, false, true, true, false, false, false, false] rfl rfl (by kernel_rfl) (fun _ _ _ h => h) (Or.inl ⟨by rfl, ?_⟩) hHeld ?_ ?_
        rotate_left
        · intro w' hS
          have c_ : w'.cell? ⟨w.heap.size, 0, none⟩ = some (.int .i64 1) := (HE5.out.below hS).c0
          go_simp
          with_reducible rfl
        rotate_left
        · simp only [Act.put, List.setIfInBounds_toArray, List.set_cons_zero, List.set_cons_succ, i64_w, i32_w]
          rfl
        refine one_ (i := 1) (N := some 97) #[true, true, true, true, false, false, false, false] rfl rfl (by kernel_rfl) (by simp) (fun K hK => ?_)
        refine goes_ Try.func43 (by kernel_rfl) rfl #[] (by rfl) rfl rfl (by simp only [List.map_toArray, List.map_cons, List.map_nil]) ?_
        with_reducible refine (has_ok _).mono ?_
        rintro e_ w9 ⟨rfl, hb_⟩
        refine ⟨_, rfl, ?_⟩
        replace hb_ := below_step hHeld hb_
        refine hK.out _ _ hb_ (fun _ => ?_)
        clear hK K
        refine norm_ (a' := ?_) ?_ ?_
        rotate_left
        · show Act.put _ (some 97) _ = _
          simp only [Act.put, List.setIfInBounds_toArray, List.set_cons_zero, List.set_cons_succ, i64_w, i32_w]
          rfl
        have HB9 := Aside0.mk (below_step HBR.out hb_)
        clear hb_
        refine pure_ (i := 4) (N := some 100) (v := ?_) (a' := ?_) #[true, true, true, true, true, false, false, false] rfl rfl (by kernel_rfl) (fun _ _ _ h => h) (Or.inl ⟨by rfl, ?_⟩) ?_ ?_
        rotate_left
        · intro w'
          go_simp
          with_reducible rfl
        rotate_left
        · simp only [Act.put, List.setIfInBounds_toArray, List.set_cons_zero, List.set_cons_succ, i64_w, i32_w]
          rfl
        refine pure_ (i := 5) (N := some 101) (v := ?_) (a' := ?_) #[true, true, true, true, true, true, false, false] rfl rfl (by kernel_rfl) (fun _ _ _ h => h) (Or.inl ⟨by rfl, ?_⟩) ?_ ?_
        rotate_left
        · intro w'
          go_simp
          with_reducible rfl
        rotate_left
        · simp only [Act.put, List.setIfInBounds_toArray, List.set_cons_zero, List.set_cons_succ, i64_w, i32_w]
          rfl
        refine pure_ (i := 6) (N := some 102) (v := ?_) (a' := ?_) #[true, true, true, true, true, true, true, false] rfl rfl (by kernel_rfl) (fun _ _ _ h => h) (Or.inl ⟨by rfl, ?_⟩) ?_ ?_
        rotate_left
        · intro w'
          go_simp
          with_reducible rfl
        rotate_left
        · simp only [Act.put, List.setIfInBounds_toArray, List.set_cons_zero, List.set_cons_succ, i64_w, i32_w]
          rfl
        refine pure_ (i := 7) (N := some 2) (v := ?_) (a' := ?_) #[true, true, true, true, true, true, true, true] rfl rfl (by kernel_rfl) (fun _ _ _ h => h) (Or.inl ⟨by rfl, ?_⟩) ?_ ?_
        rotate_left
        · intro w'
          go_simp
          with_reducible rfl
        rotate_left
        · simp only [Act.put, List.setIfInBounds_toArray, List.set_cons_zero, List.set_cons_succ, i64_w, i32_w]
          rfl
        refine done_ (by kernel_rfl) ?_
        go_wp2
        go_ret
        exact ⟨rfl, HB9.out⟩
      · have ix : ∀ w, (Instr.index 92 (.agg #[.int .i64 0, .int .i64 24, .int .i64 63, .int .i64 199, .int .i64 7, .int .i64 3, .int .i64 0]) (.int .i64 2)).run Try.prog w = .ok (.int .i64 63) w := fun _ => by kernel_rfl
        have hfin : (Go.bits .andNot .i64 (u : Int) 63 == 0) = r := (HFIN.out 2 (by decide) rfl).symm
        go_wp2_with fail
        refine start_ (n := 8) (S := fun w' => Below wr.heap.size wr w') (ds := []) #[false, false, false, false, false, false, false, false] (by kernel_rfl) rfl rfl (below_drew (Below.refl _ _)) (fun hHeld => ?_)
        refine pure_ (i := 0) (N := some 96) (v := ?_) (a' := ?_) #[true, false, false, false, false, false, false, false] rfl rfl (by kernel_rfl) (fun _ _ _ h => h) (Or.inl ⟨by rfl, ?_⟩) ?_ ?_
        rotate_left
        · intro w'
          go_simp
          with_reducible rfl
        rotate_left
        · simp only [Act.put, List.setIfInBounds_toArray, List.set_cons_zero, List.set_cons_succ, i64_w, i32_w]
          rfl
        refine pure_ (i := 2) (N := some 98) (v := ?_) (a' := ?_) #[true, false, true, false, false, false, false, false] rfl rfl (by kernel_rfl) (fun _ _ _ h => h) (Or.inl ⟨by rfl, ?_⟩) ?_ ?_
        rotate_left
        · intro w'
          go_simp
          with_reducible rfl
        rotate_left
        · simp only [Act.put, List.setIfInBounds_toArray, List.set_cons_zero, List.set_cons_succ, i64_w, i32_w]
          rfl
        refine take_ (i := 3) (N := some 99) (v := ?_) (a' := ?_) #[true, false, true, true, false, false, false, false] rfl rfl (by kernel_rfl) (fun _ _ _ h => h) (Or.inl ⟨by rfl, ?_⟩) hHeld ?_ ?_
        rotate_left
        · intro w' hS
          have c_ : w'.cell? ⟨w.heap.size, 0, none⟩ = some (.int .i64 2) := (HE5.out.below hS).c0
          go_simp
          with_reducible rfl
        rotate_left
        · simp only [Act.put, List.setIfInBounds_toArray, List.set_cons_zero, List.set_cons_succ, i64_w, i32_w]
          rfl
        refine one_ (i := 1) (N := some 97) #[true, true, true, true, false, false, false, false] rfl rfl (by kernel_rfl) (by simp) (fun K hK => ?_)
        refine goes_ Try.func43 (by kernel_rfl) rfl #[] (by rfl) rfl rfl (by simp only [List.map_toArray, List.map_cons, List.map_nil]) ?_
        with_reducible refine (has_ok _).mono ?_
        rintro e_ w9 ⟨rfl, hb_⟩
        refine ⟨_, rfl, ?_⟩
        replace hb_ := below_step hHeld hb_
        refine hK.out _ _ hb_ (fun _ => ?_)
        clear hK K
        refine norm_ (a' := ?_) ?_ ?_
        rotate_left
        · show Act.put _ (some 97) _ = _
          simp only [Act.put, List.setIfInBounds_toArray, List.set_cons_zero, List.set_cons_succ, i64_w, i32_w]
          rfl
        have HB9 := Aside0.mk (below_step HBR.out hb_)
        clear hb_
        refine pure_ (i := 4) (N := some 100) (v := ?_) (a' := ?_) #[true, true, true, true, true, false, false, false] rfl rfl (by kernel_rfl) (fun _ _ _ h => h) (Or.inl ⟨by rfl, ?_⟩) ?_ ?_
        rotate_left
        · intro w'
          go_simp
          with_reducible rfl
        rotate_left
        · simp only [Act.put, List.setIfInBounds_toArray, List.set_cons_zero, List.set_cons_succ, i64_w, i32_w]
          rfl
        refine pure_ (i := 5) (N := some 101) (v := ?_) (a' := ?_) #[true, true, true, true, true, true, false, false] rfl rfl (by kernel_rfl) (fun _ _ _ h => h) (Or.inl ⟨by rfl, ?_⟩) ?_ ?_
        rotate_left
        · intro w'
          go_simp
          with_reducible rfl
        rotate_left
        · simp only [Act.put, List.setIfInBounds_toArray, List.set_cons_zero, List.set_cons_succ, i64_w, i32_w]
          rfl
        refine pure_ (i := 6) (N := some 102) (v := ?_) (a' := ?_) #[true, true, true, true, true, true, true, false] rfl rfl (by kernel_rfl) (fun _ _ _ h => h) (Or.inl ⟨by rfl, ?_⟩) ?_ ?_
        rotate_left
        · intro w'
          go_simp
          with_reducible rfl
        rotate_left
        · simp only [Act.put, List.setIfInBounds_toArray, List.set_cons_zero, List.set_cons_succ, i64_w, i32_w]
          rfl
        refine pure_ (i := 7) (N := some 2) (v := ?_) (a' := ?_) #[true, true, true, true, true, true, true, true] rfl rfl (by kernel_rfl) (fun _ _ _ h => h) (Or.inl ⟨by rfl, ?_⟩) ?_ ?_
        rotate_left
        · intro w'
          go_simp
          with_reducible rfl
        rotate_left
        · simp only [Act.put, List.setIfInBounds_toArray, List.set_cons_zero, List.set_cons_succ, i64_w, i32_w]
          rfl
        refine done_ (by kernel_rfl) ?_
        go_wp2
        go_ret
        exact ⟨rfl, HB9.out⟩
      · have ix : ∀ w, (Instr.index 92 (.agg #[.int .i64 0, .int .i64 24, .int .i64 63, .int .i64 199, .int .i64 7, .int .i64 3, .int .i64 0]) (.int .i64 3)).run Try.prog w = .ok (.int .i64 199) w := fun _ => by kernel_rfl
        have hfin : (Go.bits .andNot .i64 (u : Int) 199 == 0) = r := (HFIN.out 3 (by decide) rfl).symm
        go_wp2_with fail
        refine start_ (n := 8) (S := fun w' => Below wr.heap.size wr w') (ds := []) #[false, false, false, false, false, false, false, false] (by kernel_rfl) rfl rfl (below_drew (Below.refl _ _)) (fun hHeld => ?_)
        refine pure_ (i := 0) (N := some 96) (v := ?_) (a' := ?_) #[true, false, false, false, false, false, false, false] rfl rfl (by kernel_rfl) (fun _ _ _ h => h) (Or.inl ⟨by rfl, ?_⟩) ?_ ?_
        rotate_left
        · intro w'
          go_simp
          with_reducible rfl
        rotate_left
        · simp only [Act.put, List.setIfInBounds_toArray, List.set_cons_zero, List.set_cons_succ, i64_w, i32_w]
          rfl
        refine pure_ (i := 2) (N := some 98) (v := ?_) (a' := ?_) #[true, false, true, false, false, false, false, false] rfl rfl (by kernel_rfl) (fun _ _ _ h => h) (Or.inl ⟨by rfl, ?_⟩) ?_ ?_
        rotate_left
        · intro w'
          go_simp
          with_reducible rfl
        rotate_left
        · simp only [Act.put, List.setIfInBounds_toArray, List.set_cons_zero, List.set_cons_succ, i64_w, i32_w]
          rfl
        refine take_ (i := 3) (N := some 99) (v := ?_) (a' := ?_) #[true, false, true, true, false, false, false, false] rfl rfl (by kernel_rfl) (fun _ _ _ h => h) (Or.inl ⟨by rfl, ?_⟩) hHeld ?_ ?_
        rotate_left
        · intro w' hS
          have c_ : w'.cell? ⟨w.heap.size, 0, none⟩ = some (.int .i64 3) := (HE5.out.below hS).c0
          go_simp
          with_reducible rfl
        rotate_left
        · simp only [Act.put, List.setIfInBounds_toArray, List.set_cons_zero, List.set_cons_succ, i64_w, i32_w]
          rfl
        refine one_ (i := 1) (N := some 97) #[true, true, true, true, false, false, false, false] rfl rfl (by kernel_rfl) (by simp) (fun K hK => ?_)
        refine goes_ Try.func43 (by kernel_rfl) rfl #[] (by rfl) rfl rfl (by simp only [List.map_toArray, List.map_cons, List.map_nil]) ?_
        with_reducible refine (has_ok _).mono ?_
        rintro e_ w9 ⟨rfl, hb_⟩
        refine ⟨_, rfl, ?_⟩
        replace hb_ := below_step hHeld hb_
        refine hK.out _ _ hb_ (fun _ => ?_)
        clear hK K
        refine norm_ (a' := ?_) ?_ ?_
        rotate_left
        · show Act.put _ (some 97) _ = _
          simp only [Act.put, List.setIfInBounds_toArray, List.set_cons_zero, List.set_cons_succ, i64_w, i32_w]
          rfl
        have HB9 := Aside0.mk (below_step HBR.out hb_)
        clear hb_
        refine pure_ (i := 4) (N := some 100) (v := ?_) (a' := ?_) #[true, true, true, true, true, false, false, false] rfl rfl (by kernel_rfl) (fun _ _ _ h => h) (Or.inl ⟨by rfl, ?_⟩) ?_ ?_
        rotate_left
        · intro w'
          go_simp
          with_reducible rfl
        rotate_left
        · simp only [Act.put, List.setIfInBounds_toArray, List.set_cons_zero, List.set_cons_succ, i64_w, i32_w]
          rfl
        refine pure_ (i := 5) (N := some 101) (v := ?_) (a' := ?_) #[true, true, true, true, true, true, false, false] rfl rfl (by kernel_rfl) (fun _ _ _ h => h) (Or.inl ⟨by rfl, ?_⟩) ?_ ?_
        rotate_left
        · intro w'
          go_simp
          with_reducible rfl
        rotate_left
        · simp only [Act.put, List.setIfInBounds_toArray, List.set_cons_zero, List.set_cons_succ, i64_w, i32_w]
          rfl
        refine pure_ (i := 6) (N := some 102) (v := ?_) (a' := ?_) #[true, true, true, true, true, true, true, false] rfl rfl (by kernel_rfl) (fun _ _ _ h => h) (Or.inl ⟨by rfl, ?_⟩) ?_ ?_
        rotate_left
        · intro w'
          go_simp
          with_reducible rfl
        rotate_left
        · simp only [Act.put, List.setIfInBounds_toArray, List.set_cons_zero, List.set_cons_succ, i64_w, i32_w]
          rfl
        refine pure_ (i := 7) (N := some 2) (v := ?_) (a' := ?_) #[true, true, true, true, true, true, true, true] rfl rfl (by kernel_rfl) (fun _ _ _ h => h) (Or.inl ⟨by rfl, ?_⟩) ?_ ?_
        rotate_left
        · intro w'
          go_simp
          with_reducible rfl
        rotate_left
        · simp only [Act.put, List.setIfInBounds_toArray, List.set_cons_zero, List.set_cons_succ, i64_w, i32_w]
          rfl
        refine done_ (by kernel_rfl) ?_
        go_wp2
        go_ret
        exact ⟨rfl, HB9.out⟩
      · have ix : ∀ w, (Instr.index 92 (.agg #[.int .i64 0, .int .i64 24, .int .i64 63, .int .i64 199, .int .i64 7, .int .i64 3, .int .i64 0]) (.int .i64 4)).run Try.prog w = .ok (.int .i64 7) w := fun _ => by kernel_rfl
        have hfin : (Go.bits .andNot .i64 (u : Int) 7 == 0) = r := (HFIN.out 4 (by decide) rfl).symm
        go_wp2_with fail
        refine start_ (n := 8) (S := fun w' => Below wr.heap.size wr w') (ds := []) #[false, false, false, false, false, false, false, false] (by kernel_rfl) rfl rfl (below_drew (Below.refl _ _)) (fun hHeld => ?_)
        refine pure_ (i := 0) (N := some 96) (v := ?_) (a' := ?_) #[true, false, false, false, false, false, false, false] rfl rfl (by kernel_rfl) (fun _ _ _ h => h) (Or.inl ⟨by rfl, ?_⟩) ?_ ?_
        rotate_left
        · intro w'
          go_simp
          with_reducible rfl
        rotate_left
        · simp only [Act.put, List.setIfInBounds_toArray, List.set_cons_zero, List.set_cons_succ, i64_w, i32_w]
          rfl
        refine pure_ (i := 2) (N := some 98) (v := ?_) (a' := ?_) #[true, false, true, false, false, false, false, false] rfl rfl (by kernel_rfl) (fun _ _ _ h => h) (Or.inl ⟨by rfl, ?_⟩) ?_ ?_
        rotate_left
        · intro w'
          go_simp
          with_reducible rfl
        rotate_left
        · simp only [Act.put, List.setIfInBounds_toArray, List.set_cons_zero, List.set_cons_succ, i64_w, i32_w]
          rfl
        refine take_ (i := 3) (N := some 99) (v := ?_) (a' := ?_) #[true, false, true, true, false, false, false, false] rfl rfl (by kernel_rfl) (fun _ _ _ h => h) (Or.inl ⟨by rfl, ?_⟩) hHeld ?_ ?_
        rotate_left
        · intro w' hS
          have c_ : w'.cell? ⟨w.heap.size, 0, none⟩ = some (.int .i64 4) := (HE5.out.below hS).c0
          go_simp
          with_reducible rfl
        rotate_left
        · simp only [Act.put, List.setIfInBounds_toArray, List.set_cons_zero, List.set_cons_succ, i64_w, i32_w]
          rfl
        refine one_ (i := 1) (N := some 97) #[true, true, true, true, false, false, false, false] rfl rfl (by kernel_rfl) (by simp) (fun K hK => ?_)
        refine goes_ Try.func43 (by kernel_rfl) rfl #[] (by rfl) rfl rfl (by simp only [List.map_toArray, List.map_cons, List.map_nil]) ?_
        with_reducible refine (has_ok _).mono ?_
        rintro e_ w9 ⟨rfl, hb_⟩
        refine ⟨_, rfl, ?_⟩
        replace hb_ := below_step hHeld hb_
        refine hK.out _ _ hb_ (fun _ => ?_)
        clear hK K
        refine norm_ (a' := ?_) ?_ ?_
        rotate_left
        · show Act.put _ (some 97) _ = _
          simp only [Act.put, List.setIfInBounds_toArray, List.set_cons_zero, List.set_cons_succ, i64_w, i32_w]
          rfl
        have HB9 := Aside0.mk (below_step HBR.out hb_)
        clear hb_
        refine pure_ (i := 4) (N := some 100) (v := ?_) (a' := ?_) #[true, true, true, true, true, false, false, false] rfl rfl (by kernel_rfl) (fun _ _ _ h => h) (Or.inl ⟨by rfl, ?_⟩) ?_ ?_
        rotate_left
        · intro w'
          go_simp
          with_reducible rfl
        rotate_left
        · simp only [Act.put, List.setIfInBounds_toArray, List.set_cons_zero, List.set_cons_succ, i64_w, i32_w]
          rfl
        refine pure_ (i := 5) (N := some 101) (v := ?_) (a' := ?_) #[true, true, true, true, true, true, false, false] rfl rfl (by kernel_rfl) (fun _ _ _ h => h) (Or.inl ⟨by rfl, ?_⟩) ?_ ?_
        rotate_left
        · intro w'
          go_simp
          with_reducible rfl
        rotate_left
        · simp only [Act.put, List.setIfInBounds_toArray, List.set_cons_zero, List.set_cons_succ, i64_w, i32_w]
          rfl
        refine pure_ (i := 6) (N := some 102) (v := ?_) (a' := ?_) #[true, true, true, true, true, true, true, false] rfl rfl (by kernel_rfl) (fun _ _ _ h => h) (Or.inl ⟨by rfl, ?_⟩) ?_ ?_
        rotate_left
        · intro w'
          go_simp
          with_reducible rfl
        rotate_left
        · simp only [Act.put, List.setIfInBounds_toArray, List.set_cons_zero, List.set_cons_succ, i64_w, i32_w]
          rfl
        refine pure_ (i := 7) (N := some 2) (v := ?_) (a' := ?_) #[true, true, true, true, true, true, true, true] rfl rfl (by kernel_rfl) (fun _ _ _ h => h) (Or.inl ⟨by rfl, ?_⟩) ?_ ?_
        rotate_left
        · intro w'
          go_simp
          with_reducible rfl
        rotate_left
        · simp only [Act.put, List.setIfInBounds_toArray, List.set_cons_zero, List.set_cons_succ, i64_w, i32_w]
          rfl
        refine done_ (by kernel_rfl) ?_
        go_wp2
        go_ret
        exact ⟨rfl, HB9.out⟩
      · have ix : ∀ w, (Instr.index 92 (.agg #[.int .i64 0, .int .i64 24, .int .i64 63, .int .i64 199, .int .i64 7, .int .i64 3, .int .i64 0]) (.int .i64 5)).run Try.prog w = .ok (.int .i64 3) w := fun _ => by kernel_rfl
        have hfin : (Go.bits .andNot .i64 (u : Int) 3 == 0) = r := (HFIN.out 5 (by decide) rfl).symm
        go_wp2_with fail
        refine start_ (n := 8) (S := fun w' => Below wr.heap.size wr w') (ds := []) #[false, false, false, false, false, false, false, false] (by kernel_rfl) rfl rfl (below_drew (Below.refl _ _)) (fun hHeld => ?_)
        refine pure_ (i := 0) (N := some 96) (v := ?_) (a' := ?_) #[true, false, false, false, false, false, false, false] rfl rfl (by kernel_rfl) (fun _ _ _ h => h) (Or.inl ⟨by rfl, ?_⟩) ?_ ?_
        rotate_left
        · intro w'
          go_simp
          with_reducible rfl
        rotate_left
        · simp only [Act.put, List.setIfInBounds_toArray, List.set_cons_zero, List.set_cons_succ, i64_w, i32_w]
          rfl
        refine pure_ (i := 2) (N := some 98) (v := ?_) (a' := ?_) #[true, false, true, false, false, false, false, false] rfl rfl (by kernel_rfl) (fun _ _ _ h => h) (Or.inl ⟨by rfl, ?_⟩) ?_ ?_
        rotate_left
        · intro w'
          go_simp
          with_reducible rfl
        rotate_left
        · simp only [Act.put, List.setIfInBounds_toArray, List.set_cons_zero, List.set_cons_succ, i64_w, i32_w]
          rfl
        refine take_ (i := 3) (N := some 99) (v := ?_) (a' := ?_) #[true, false, true, true, false, false, false, false] rfl rfl (by kernel_rfl) (fun _ _ _ h => h) (Or.inl ⟨by rfl, ?_⟩) hHeld ?_ ?_
        rotate_left
        · intro w' hS
          have c_ : w'.cell? ⟨w.heap.size, 0, none⟩ = some (.int .i64 5) := (HE5.out.below hS).c0
          go_simp
          with_reducible rfl
        rotate_left
        · simp only [Act.put, List.setIfInBounds_toArray, List.set_cons_zero, List.set_cons_succ, i64_w, i32_w]
          rfl
        refine one_ (i := 1) (N := some 97) #[true, true, true, true, false, false, false, false] rfl rfl (by kernel_rfl) (by simp) (fun K hK => ?_)
        refine goes_ Try.func43 (by kernel_rfl) rfl #[] (by rfl) rfl rfl (by simp only [List.map_toArray, List.map_cons, List.map_nil]) ?_
        with_reducible refine (has_ok _).mono ?_
        rintro e_ w9 ⟨rfl, hb_⟩
        refine ⟨_, rfl, ?_⟩
        replace hb_ := below_step hHeld hb_
        refine hK.out _ _ hb_ (fun _ => ?_)
        clear hK K
        refine norm_ (a' := ?_) ?_ ?_
        rotate_left
        · show Act.put _ (some 97) _ = _
          simp only [Act.put, List.setIfInBounds_toArray, List.set_cons_zero, List.set_cons_succ, i64_w, i32_w]
          rfl
        have HB9 := Aside0.mk (below_step HBR.out hb_)
        clear hb_
        refine pure_ (i := 4) (N := some 100) (v := ?_) (a' := ?_) #[true, true, true, true, true, false, false, false] rfl rfl (by kernel_rfl) (fun _ _ _ h => h) (Or.inl ⟨by rfl, ?_⟩) ?_ ?_
        rotate_left
        · intro w'
          go_simp
          with_reducible rfl
        rotate_left
        · simp only [Act.put, List.setIfInBounds_toArray, List.set_cons_zero, List.set_cons_succ, i64_w, i32_w]
          rfl
        refine pure_ (i := 5) (N := some 101) (v := ?_) (a' := ?_) #[true, true, true, true, true, true, false, false] rfl rfl (by kernel_rfl) (fun _ _ _ h => h) (Or.inl ⟨by rfl, ?_⟩) ?_ ?_
        rotate_left
        · intro w'
          go_simp
          with_reducible rfl
        rotate_left
        · simp only [Act.put, List.setIfInBounds_toArray, List.set_cons_zero, List.set_cons_succ, i64_w, i32_w]
          rfl
        refine pure_ (i := 6) (N := some 102) (v := ?_) (a' := ?_) #[true, true, true, true, true, true, true, false] rfl rfl (by kernel_rfl) (fun _ _ _ h => h) (Or.inl ⟨by rfl, ?_⟩) ?_ ?_
        rotate_left
        · intro w'
          go_simp
          with_reducible rfl
        rotate_left
        · simp only [Act.put, List.setIfInBounds_toArray, List.set_cons_zero, List.set_cons_succ, i64_w, i32_w]
          rfl
        refine pure_ (i := 7) (N := some 2) (v := ?_) (a' := ?_) #[true, true, true, true, true, true, true, true] rfl rfl (by kernel_rfl) (fun _ _ _ h => h) (Or.inl ⟨by rfl, ?_⟩) ?_ ?_
        rotate_left
        · intro w'
          go_simp
          with_reducible rfl
        rotate_left
        · simp only [Act.put, List.setIfInBounds_toArray, List.set_cons_zero, List.set_cons_succ, i64_w, i32_w]
          rfl
        refine done_ (by kernel_rfl) ?_
        go_wp2
        go_ret
        exact ⟨rfl, HB9.out⟩
      · have ix : ∀ w, (Instr.index 92 (.agg #[.int .i64 0, .int .i64 24, .int .i64 63, .int .i64 199, .int .i64 7, .int .i64 3, .int .i64 0]) (.int .i64 6)).run Try.prog w = .ok (.int .i64 0) w := fun _ => by kernel_rfl
        have hfin : (Go.bits .andNot .i64 (u : Int) 0 == 0) = r := (HFIN.out 6 (by decide) rfl).symm
        go_wp2_with fail
        refine start_ (n := 8) (S := fun w' => Below wr.heap.size wr w') (ds := []) #[false, false, false, false, false, false, false, false] (by kernel_rfl) rfl rfl (below_drew (Below.refl _ _)) (fun hHeld => ?_)
        refine pure_ (i := 0) (N := some 96) (v := ?_) (a' := ?_) #[true, false, false, false, false, false, false, false] rfl rfl (by kernel_rfl) (fun _ _ _ h => h) (Or.inl ⟨by rfl, ?_⟩) ?_ ?_
        rotate_left
        · intro w'
          go_simp
          with_reducible rfl
        rotate_left
        · simp only [Act.put, List.setIfInBounds_toArray, List.set_cons_zero, List.set_cons_succ, i64_w, i32_w]
          rfl
        refine pure_ (i := 2) (N := some 98) (v := ?_) (a' := ?_) #[true, false, true, false, false, false, false, false] rfl rfl (by kernel_rfl) (fun _ _ _ h => h) (Or.inl ⟨by rfl, ?_⟩) ?_ ?_
        rotate_left
        · intro w'
          go_simp
          with_reducible rfl
        rotate_left
        · simp only [Act.put, List.setIfInBounds_toArray, List.set_cons_zero, List.set_cons_succ, i64_w, i32_w]
          rfl
        refine take_ (i := 3) (N := some 99) (v := ?_) (a' := ?_) #[true, false, true, true, false, false, false, false] rfl rfl (by kernel_rfl) (fun _ _ _ h => h) (Or.inl ⟨by rfl, ?_⟩) hHeld ?_ ?_
        rotate_left
        · intro w' hS
          have c_ : w'.cell? ⟨w.heap.size, 0, none⟩ = some (.int .i64 6) := (HE5.out.below hS).c0
          go_simp
          with_reducible rfl
        rotate_left
        · simp only [Act.put, List.setIfInBounds_toArray, List.set_cons_zero, List.set_cons_succ, i64_w, i32_w]
          rfl
        refine one_ (i := 1) (N := some 97) #[true, true, true, true, false, false, false, false] rfl rfl (by kernel_rfl) (by simp) (fun K hK => ?_)
        refine goes_ Try.func43 (by kernel_rfl) rfl #[] (by rfl) rfl rfl (by simp only [List.map_toArray, List.map_cons, List.map_nil]) ?_
        with_reducible refine (has_ok _).mono ?_
        rintro e_ w9 ⟨rfl, hb_⟩
        refine ⟨_, rfl, ?_⟩
        replace hb_ := below_step hHeld hb_
        refine hK.out _ _ hb_ (fun _ => ?_)
        clear hK K
        refine norm_ (a' := ?_) ?_ ?_
        rotate_left
        · show Act.put _ (some 97) _ = _
          simp only [Act.put, List.setIfInBounds_toArray, List.set_cons_zero, List.set_cons_succ, i64_w, i32_w]
          rfl
        have HB9 := Aside0.mk (below_step HBR.out hb_)
        clear hb_
        refine pure_ (i := 4) (N := some 100) (v := ?_) (a' := ?_) #[true, true, true, true, true, false, false, false] rfl rfl (by kernel_rfl) (fun _ _ _ h => h) (Or.inl ⟨by rfl, ?_⟩) ?_ ?_
        rotate_left
        · intro w'
          go_simp
          with_reducible rfl
        rotate_left
        · simp only [Act.put, List.setIfInBounds_toArray, List.set_cons_zero, List.set_cons_succ, i64_w, i32_w]
          rfl
        refine pure_ (i := 5) (N := some 101) (v := ?_) (a' := ?_) #[true, true, true, true, true, true, false, false] rfl rfl (by kernel_rfl) (fun _ _ _ h => h) (Or.inl ⟨by rfl, ?_⟩) ?_ ?_
        rotate_left
        · intro w'
          go_simp
          with_reducible rfl
        rotate_left
        · simp only [Act.put, List.setIfInBounds_toArray, List.set_cons_zero, List.set_cons_succ, i64_w, i32_w]
          rfl
        refine pure_ (i := 6) (N := some 102) (v := ?_) (a' := ?_) #[true, true, true, true, true, true, true, false] rfl rfl (by kernel_rfl) (fun _ _ _ h => h) (Or.inl ⟨by rfl, ?_⟩) ?_ ?_
        rotate_left
        · intro w'
          go_simp
          with_reducible rfl
        rotate_left
        · simp only [Act.put, List.setIfInBounds_toArray, List.set_cons_zero, List.set_cons_succ, i64_w, i32_w]
          rfl
        refine pure_ (i := 7) (N := some 2) (v := ?_) (a' := ?_) #[true, true, true, true, true, true, true, true] rfl rfl (by kernel_rfl) (fun _ _ _ h => h) (Or.inl ⟨by rfl, ?_⟩) ?_ ?_
        rotate_left
        · intro w'
          go_simp
          with_reducible rfl
        rotate_left
        · simp only [Act.put, List.setIfInBounds_toArray, List.set_cons_zero, List.set_cons_succ, i64_w, i32_w]
          rfl
        refine done_ (by kernel_rfl) ?_
        go_wp2
        go_ret
        exact ⟨rfl, HB9.out⟩
    · intro j w8 cnt1 HM hen
      obtain ⟨h8, hrg_, hlt_, hgr_, hu_⟩ := HM.out
      have HLT := Aside0.mk hlt_
      have HRG1 := Aside0.mk hrg_
      have HB8 := Aside0.mk (HB7.out.grown hgr_ HB7.out.size (fun k hk => by cases hk; exact HRR.out))
      have HU1 := Aside0.mk hu_
      have HOR : Aside0 (Go.bits .or .i64 (u : Int) (key2 j) = ((u ||| 2 ^ j : Nat) : Int)) := ⟨or_bits u j HU.out.lt h8⟩
      have HJ := Aside0.mk h8
      clear hrg_ hlt_ hgr_ hu_ HM h8 HB7 HU
      generalize hbj : (bsOf tk ep tx lg q5 dl n9 n10) j = y at *
      have HBJ := Aside0.mk hbj
      clear hbj
      cases y with
      | true =>
        go_wp2
        exact ⟨⟨u ||| 2 ^ j, HOR.out, _, ⟨cnt1, HRG1⟩, HU1⟩, by rw [HRG1.out.left_eq, HRG.out.left_eq]; exact HLT.out⟩
      | false =>
        go_wp2
        refine ⟨?_, by rw [HRG1.out.left_eq, HRG.out.left_eq]; exact HLT.out⟩
        repeat apply Exists.intro
        exact ⟨⟨u, _, cnt1, rfl, HRG1, HB8, HU1⟩, rfl⟩
end Go.Proofs.Ytmnglonjekegcaa.Rc
