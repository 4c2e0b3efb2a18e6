/- (c11) ViewInputs: the openers that its row names. -/
import Derived.Test.YtmnglonjekegcaaOpn
import Derived.Test.YtmnglonjekegcaaRp0
import Derived.Test.YtmnglonjekegcaaVwEn
import Derived.Test.YtmnglonjekegcaaVwGr
namespace Go.Proofs.Ytmnglonjekegcaa.Rc
open Go Go.RowKit Go.Proofs.YtmnglonjekegcaaW.PrintWords Go.Proofs.Ytmnglonjekegcaa.Opn Go.Proofs.Ytmnglonjekegcaa.Rp
set_option linter.unusedVariables false
set_option linter.unusedSimpArgs false
def I64 (n : Int) : Prop := -9223372036854775808 ≤ n ∧ n ≤ 9223372036854775807
theorem wf_I64 {n : Int} (h : (Lit.int .i64 n).wf = true) : I64 n := by
  simp [Lit.wf, IntKind.min, IntKind.max, IntKind.bits, IntKind.signed] at h
  unfold I64
  omega
theorem mono_op {H : Type} {enc : TypeId × Value → H} {P : Program} {α : Type} {d : Kd α} {e : TypeId} {G G' : α → DataW H → Prop} (h : Opens enc P d e G) (hg : ∀ a x, G a x → G' a x) : Opens enc P d e G' := by
  intro w base sp held fuel cs x h1
  obtain ⟨a, h1, h2⟩ := h w base sp held fuel cs x h1
  exact ⟨a, h1, hg _ _ h2⟩
def recOk (r : S45) : Prop := I64 r.f0 ∧ I64 r.f1 ∧ I64 r.f2
theorem opens_R {H : Type} {enc : TypeId × Value → H} : Opens enc Try.prog k45 45 (fun r _ => recOk r) := by
  have h := opens_iso (enc := enc) (P := Try.prog) (fun x : S45 => (x.f0, x.f1, x.f2)) (fun a => (⟨a.1, a.2.1, a.2.2⟩ : S45)) (fun _ => rfl)
    (opens_struct (enc := enc) Try.underlying45 rfl (by kernel_rfl) (opensF_cons (off' := 1) rfl (by kernel_rfl) rfl (opens_int Try.underlying2) (opensF_cons (off' := 2) rfl (by kernel_rfl) rfl (opens_int Try.underlying2) (opensF_one rfl (by kernel_rfl) (opens_int Try.underlying2)))))
  refine mono_op h (fun r x hx => ?_)
  obtain ⟨l, _, y, t, _, ⟨_, h1⟩, y2, t2, _, ⟨_, h2⟩, y3, _, ⟨_, h3⟩⟩ := hx
  exact ⟨wf_I64 h1, wf_I64 h2, wf_I64 h3⟩
theorem slice_ints {H : Type} {l : List Int} {x : DataW H} (h : GSlice (GInt .i64) l x) : l.length ≤ maxLen ∧ ∀ n ∈ l, I64 n := by
  obtain ⟨h0, h⟩ := h
  refine ⟨h0, fun n hn => ?_⟩
  rcases h with ⟨rfl, _⟩ | ⟨ds, rest, _, hl, h⟩
  · cases hn
  · obtain ⟨i, hi, rfl⟩ := List.getElem_of_mem hn
    exact wf_I64 (h i _ _ (List.getElem?_eq_getElem hi) (List.getElem?_eq_getElem (by omega))).2
def entOk (v : S47) : Prop := (I64 v.f0 ∧ I64 v.f1 ∧ I64 v.f2 ∧ I64 v.f3 ∧ I64 v.f4) ∧ recOk v.f5 ∧ (v.f7.length ≤ maxLen ∧ ∀ x ∈ v.f7, I64 x) ∧ (v.f8.length ≤ maxLen ∧ ∀ x ∈ v.f8, I64 x)
theorem opens_Ent {H : Type} {enc : TypeId × Value → H} : Opens enc Try.prog k47 47 (fun v _ => entOk v) := by
  have h := opens_iso (enc := enc) (P := Try.prog) (fun x : S47 => (x.f0, x.f1, x.f2, x.f3, x.f4, x.f5, x.f6, x.f7, x.f8)) (fun a => (⟨a.1, a.2.1, a.2.2.1, a.2.2.2.1, a.2.2.2.2.1, a.2.2.2.2.2.1, a.2.2.2.2.2.2.1, a.2.2.2.2.2.2.2.1, a.2.2.2.2.2.2.2.2⟩ : S47)) (fun _ => rfl)
    (opens_struct (enc := enc) Try.underlying47 rfl (by kernel_rfl) (opensF_cons (off' := 1) rfl (by kernel_rfl) rfl (opens_int Try.underlying3) (opensF_cons (off' := 2) rfl (by kernel_rfl) rfl (opens_int Try.underlying3) (opensF_cons (off' := 3) rfl (by kernel_rfl) rfl (opens_int Try.underlying3) (opensF_cons (off' := 4) rfl (by kernel_rfl) rfl (opens_int Try.underlying3) (opensF_cons (off' := 5) rfl (by kernel_rfl) rfl (opens_int Try.underlying3) (opensF_cons (off' := 8) rfl (by kernel_rfl) rfl opens_R (opensF_cons (off' := 9) rfl (by kernel_rfl) rfl (opens_bool Try.underlying4)
      (opensF_cons (off' := 10) rfl (by kernel_rfl) rfl (opens_slice (e' := 3) Try.underlying39 (opens_int Try.underlying3) (by kernel_rfl))
      (opensF_one rfl (by kernel_rfl) (opens_slice (e' := 3) Try.underlying39 (opens_int Try.underlying3) (by kernel_rfl))))))))))))
  refine mono_op h (fun v x hx => ?_)
  obtain ⟨l, _, y, t, _, ⟨_, h1⟩, y2, t2, _, ⟨_, h2⟩, y3, t3, _, ⟨_, h3⟩, y4, t4, _, ⟨_, h4⟩, y5, t5, _, ⟨_, h5⟩, y6, t6, _, h6, y7, t7, _, h7, y8, t8, _, h8, y9, _, h9⟩ := hx
  exact ⟨⟨wf_I64 h1, wf_I64 h2, wf_I64 h3, wf_I64 h4, wf_I64 h5⟩, h6, slice_ints h8, slice_ints h9⟩
end Go.Proofs.Ytmnglonjekegcaa.Rc
namespace Go.Proofs.Ytmnglonjekegcaa.Vw
open Go Go.RowKit Go.Maps Go.Proofs.Ytmnglonjekegcaa.Mk Go.Proofs.Ytmnglonjekegcaa.Rp Go.Proofs.YtmnglonjekegcaaW.PrintWords Go.Proofs.YtmnglonjekegcaaW.PrintLast Go.Proofs.YtmnglonjekegcaaW.PrintMore Go.Proofs.Ytmnglonjekegcaa.Rw Go.Proofs.Ytmnglonjekegcaa.Ow Go.Proofs.Ytmnglonjekegcaa.Mono
set_option linter.unusedVariables false
set_option linter.unusedSimpArgs false
set_option maxRecDepth 100000
/-- append(row, x): the literal row of one entry lies in the block gl. -/
theorem EO.app1 {w0 w W1 : World} {base : Nat} {v : Value} {xs : List S47} (h : EO w0 base w v xs) (hB : Below w0.heap.size w0 w) (hbs : base ≤ w.heap.size) (x : S47) (A9 A10 : Option Addr) (c9 c10 : Nat) (hC9 : Kd.C (Kd.int .i64) w0 A9 x.f7.length x.f7) (hc9 : x.f7.length ≤ c9) (hC10 : Kd.C (Kd.int .i64) w0 A10 x.f8.length x.f8) (hc10 : x.f8.length ≤ c10)
    {gl : Nat} (h1 : Below w.heap.size w W1) (hgl : W1.heap[gl]? = some (.cells (entC x A9 c9 A10 c10).toArray 47 (0, 0))) (hn : xs.length ≤ 1000000) (ty : TypeId) (hty : ty = 22) :
    ∃ v' w', (Builtin.append_ #[22, 22] ty #[v, .slice (some ⟨gl, 0, none⟩) 1 1]).run Try.prog W1 = .ok v' w' ∧ EO w0 base w' v' (xs ++ [x]) ∧ W1.grownBy w' v.ownBlock ∧ Hat v v' W1.heap.size ∧ base ≤ w'.heap.size ∧ (∀ (b : Nat) (wx : World), b ≤ base → Below b wx w → Below b wx w') ∧ (∃ A' c', v' = .slice A' (xs.length + 1) c') := by
  obtain ⟨cs, ho, hr⟩ := h
  have hb1 : base ≤ W1.heap.size := Nat.le_trans hbs h1.size
  obtain ⟨v', w', hrun, h2, h3, h4, h5⟩ := app_one TIE ty hty W1 base xs.length v cs (own_below ho h1) gl 1 (entC x A9 c9 A10 c10) hgl rfl (by simp [entC, Value.oneCell']) hn (by decide) hb1
  refine ⟨v', w', hrun, ⟨cs ++ entC x A9 c9 A10 c10, by rw [List.length_append]; exact h2, ?_⟩, h3, h4, Nat.le_trans hb1 h3.size, fun b wx hb hx => ?_, h5⟩
  · exact hr.snoc (k47_mk w0 x (A9 := A9) (c9 := c9) hc9 hC9 (A10 := A10) (c10 := c10) hc10 hC10) rfl
  · have hx1 : Below b wx W1 := below_on hx (Nat.le_trans hb hbs) h1
    exact hx1.grown h3 (Nat.le_trans hb hb1) fun k hk => Nat.le_trans hb (Ow.own_lt ho k hk).1
/-! ### the last bits of a number -/
theorem bits_small (x : Int) (m : Nat) (hm : m < 1000) : 0 ≤ bits .and .i64 x (m : Int) ∧ bits .and .i64 x (m : Int) ≤ m := by
  unfold bits
  dsimp only
  rw [i64_w, BitVec.toNat_and]
  have h1 : (BitVec.ofInt IntKind.i64.bits (m : Int)).toNat = m := by
    rw [BitVec.toNat_ofInt]
    show ((m : Int) % ((2 ^ 64 : Nat) : Int)).toNat = m
    omega
  rw [h1]
  have h2 : (BitVec.ofInt IntKind.i64.bits x).toNat &&& m ≤ m := Nat.and_le_right
  generalize (BitVec.ofInt IntKind.i64.bits x).toNat &&& m = q at h2 ⊢
  unfold wrap64
  omega
end Go.Proofs.Ytmnglonjekegcaa.Vw
namespace Go.Proofs.Ytmnglonjekegcaa.Vw
open Go Go.RowKit Go.Maps Go.Proofs.Ytmnglonjekegcaa.Mk Go.Proofs.Ytmnglonjekegcaa.Rp Go.Proofs.YtmnglonjekegcaaW.PrintWords Go.Proofs.YtmnglonjekegcaaW.PrintLast Go.Proofs.YtmnglonjekegcaaW.PrintMore Go.Proofs.Ytmnglonjekegcaa.Rw Go.Proofs.Ytmnglonjekegcaa.Ow Go.Proofs.Ytmnglonjekegcaa.Mono
set_option linter.unusedVariables false
set_option linter.unusedSimpArgs false
set_option maxRecDepth 100000
def upd {α : Type} (V : Nat → α) (k : Nat) (v : α) : Nat → α := fun j => if j = k then v else V j
structure WR (w : World) (base gw : Nat) (V : Nat → Value) (F : Nat → List S45) : Prop where
  arr : w.heap[gw]? = some (.cells #[V 0, V 1, V 2] 51 (0, 0))
  own : ∀ j, w.ownsRow base 45 3 (V j) (F j).length (cellsR (F j))
  dis : ∀ i j, i ≠ j → Dis (V i) (V j)
theorem WR.start {w : World} {base gw : Nat} (h : w.heap[gw]? = some (.cells #[.slice none 0 0, .slice none 0 0, .slice none 0 0] 51 (0, 0))) : WR w base gw (fun _ => .slice none 0 0) (fun _ => []) :=
  ⟨h, fun _ => World.ownsRow_nil _ _ _ _, fun _ _ _ => Dis.none_l rfl⟩
theorem WR.kept {w w' : World} {base gw : Nat} {V : Nat → Value} {F : Nat → List S45} (h : WR w base gw V F) (hk : ∀ (k : Nat) (T : TypeId) (cs : Array Value), T ≠ 47 → w.heap[k]? = some (.cells cs T (0, 0)) → w'.heap[k]? = some (.cells cs T (0, 0))) : WR w' base gw V F :=
  ⟨hk _ _ _ (by decide) h.arr, fun j => own_kept (h.own j) fun k e => by
    obtain ⟨cur, hc⟩ := own_block (h.own j) e
    rw [hk _ _ _ (by decide) hc, hc], h.dis⟩
theorem WR.below {w w' : World} {base gw : Nat} {V : Nat → Value} {F : Nat → List S45} (h : WR w base gw V F) (hb : Below w.heap.size w w') : WR w' base gw V F :=
  h.kept fun k T cs _ hc => blk_below hc hb
/-- A record appended to the row k, and the row stored. -/
theorem WR.app {w : World} {base gw : Nat} {V : Nat → Value} {F : Nat → List S45} (h : WR w base gw V F) (hbb : base ≤ w.heap.size) (k : Nat) (hk : k < 3) (x : S45) (gl : Nat) (hgl : w.heap[gl]? = some (.cells #[.int .i64 x.f0, .int .i64 x.f1, .int .i64 x.f2] 45 (0, 0))) (hn : (F k).length ≤ 1000000) (ty : TypeId) (hty : ty = 33) :
    ∃ v' w', (Builtin.append_ #[33, 33] ty #[V k, .slice (some ⟨gl, 0, none⟩) 1 1]).run Try.prog w = .ok v' w' ∧ WR (w'.setCell ⟨gw, k, none⟩ v') base gw (upd V k v') (upd F k (F k ++ [x])) ∧ w'.heap[gw]? = some (.cells #[V 0, V 1, V 2] 51 (0, 0)) ∧ (∀ (b : Nat) (wx : World), b ≤ base → b ≤ gw → Below b wx w → Below b wx (w'.setCell ⟨gw, k, none⟩ v')) ∧ (∀ (j : Nat) (cs : Array Value), w.heap[j]? = some (.cells cs 47 (0, 0)) → (w'.setCell ⟨gw, k, none⟩ v').heap[j]? = some (.cells cs 47 (0, 0))) ∧ w.heap.size ≤ (w'.setCell ⟨gw, k, none⟩ v').heap.size ∧ ∃ A c', v' = .slice A ((F k).length + 1) c' := by
  obtain ⟨v', w', hr, ho, hg, hat, hA⟩ := app_one TIR ty hty w base (F k).length (V k) (cellsR (F k)) (h.own k) gl 1 [.int .i64 x.f0, .int .i64 x.f1, .int .i64 x.f2] hgl rfl (by simp [Value.oneCell']) hn (by decide) hbb
  have hkp : ∀ (k : Nat) (T : TypeId) (cs : Array Value), T ≠ 45 → w.heap[k]? = some (.cells cs T (0, 0)) → w'.heap[k]? = some (.cells cs T (0, 0)) := fun j T cs hT hj => blk_grown hj hg fun hh => by
    obtain ⟨cur, hc⟩ := own_block (h.own k) hh
    exact blk_types hj hc hT rfl
  have harr := hkp _ _ _ (by decide) h.arr
  have hset : ∀ {v : Value} {n : Nat} {xs : List Value}, w'.ownsRow base 45 3 v n xs → (w'.setCell ⟨gw, k, none⟩ v').ownsRow base 45 3 v n xs := fun ho => own_kept ho fun j hj => by
    obtain ⟨cur, hc⟩ := own_block ho hj
    exact Below.heap_setCell _ _ _ j (blk_types hc harr (by decide))
  refine ⟨v', w', hr, ⟨?_, fun j => ?_, fun i j hij => ?_⟩, harr, fun b wx hb hbg hx => ?_, fun j cs hj => ?_, ?_, hA⟩
  · have hp : ∀ (j : Nat), j < 3 → ∀ T, (#[V 0, V 1, V 2] : Array Value).set! j T = #[upd V j T 0, upd V j T 1, upd V j T 2] := fun j hj T => by
      rcases (show j = 0 ∨ j = 1 ∨ j = 2 by omega) with rfl | rfl | rfl <;> rfl
    have := blk_put harr k v' rfl
    first
      | exact this.trans (by rw [hp k hk])
      | (rw [show (#[V 0, V 1, V 2] : Array Value).setIfInBounds k v' = #[upd V k v' 0, upd V k v' 1, upd V k v' 2] from hp k hk v'] at this; exact this)
  · by_cases hj : j = k
    · subst hj
      unfold upd
      rw [if_pos rfl, if_pos rfl]
      refine hset ?_
      rw [cellsR_append, List.length_append]
      exact ho
    · unfold upd
      rw [if_neg hj, if_neg hj]
      refine hset (own_kept (h.own j) fun i hi => ?_)
      refine hg.block i (Ow.own_lt (h.own j) i hi.symm).2 fun hh => h.dis j k hj i hi.symm hh.symm
  · have hlt : ∀ j b, (V j).ownBlock = some b → b < w.heap.size := fun j b hb => (Ow.own_lt (h.own j) b hb).2
    unfold upd
    split
    · split
      · omega
      · rename_i hi hj; exact (h.dis k j (fun e => hj e.symm)).hat hat (hlt j)
    · split
      · rename_i hi hj; exact ((h.dis k i (fun e => hi e.symm)).hat hat (hlt i)).symm
      · exact h.dis i j hij
  · exact (hx.grown hg (Nat.le_trans hb hbb) fun j hj => Nat.le_trans hb (Ow.own_lt (h.own k) j hj).1).setCell (p := ⟨gw, k, none⟩) hbg _
  · exact (Below.heap_setCell _ _ _ j (blk_types (hkp _ _ _ (by decide) hj) harr (by decide))).trans (hkp _ _ _ (by decide) hj)
  · exact Nat.le_trans hg.size ((Below.refl 0 w').setCell (p := ⟨gw, k, none⟩) (Nat.zero_le _) v' |>.size)
theorem EO.keep {w0 w W1 w' : World} {base : Nat} {v : Value} {xs : List S47} (h : EO w0 base w v xs) (h1 : Below w.heap.size w W1) (hg : W1.grownBy w' v.ownBlock) : ∀ (k : Nat) (T : TypeId) (cs : Array Value), T ≠ 47 → W1.heap[k]? = some (.cells cs T (0, 0)) → w'.heap[k]? = some (.cells cs T (0, 0)) := fun k T cs hT hk => blk_grown hk hg fun hh => by
  obtain ⟨ds, ho, _⟩ := h
  obtain ⟨cur, hc⟩ := own_block (own_below ho h1) hh
  exact blk_types hk hc hT rfl
theorem EO.kept {w0 w w' : World} {base : Nat} {v : Value} {xs : List S47} (h : EO w0 base w v xs) (hk : ∀ (j : Nat) (cs : Array Value), w.heap[j]? = some (.cells cs 47 (0, 0)) → w'.heap[j]? = some (.cells cs 47 (0, 0))) : EO w0 base w' v xs := by
  obtain ⟨ds, ho, hr⟩ := h
  exact ⟨ds, own_kept ho fun k e => by
    obtain ⟨cur, hc⟩ := own_block ho e
    rw [hk _ _ hc, hc], hr⟩
theorem C_nil (w : World) : Kd.C (Kd.int .i64) w none 0 [] := ⟨rfl, by simp, fun h => by simp at h⟩
end Go.Proofs.Ytmnglonjekegcaa.Vw
namespace Go.Proofs.Ytmnglonjekegcaa.Vw
open Go Go.RowKit Go.Maps Go.Proofs.Ytmnglonjekegcaa.Mk Go.Proofs.Ytmnglonjekegcaa.Rp Go.Proofs.YtmnglonjekegcaaW.PrintWords Go.Proofs.YtmnglonjekegcaaW.PrintLast Go.Proofs.YtmnglonjekegcaaW.PrintMore Go.Proofs.Ytmnglonjekegcaa.Rw Go.Proofs.Ytmnglonjekegcaa.Ow Go.Proofs.Ytmnglonjekegcaa.Mono
set_option linter.unusedVariables false
set_option linter.unusedSimpArgs false
set_option maxRecDepth 100000
theorem cell_k {w : World} {gw : Nat} {V : Nat → Value} {T : TypeId} (h : w.heap[gw]? = some (.cells #[V 0, V 1, V 2] T (0, 0))) {k : Nat} (hk : k < 3) : w.cell? ⟨gw, k, none⟩ = some (V k) := by
  rw [blk_cell h]
  rcases (show k = 0 ∨ k = 1 ∨ k = 2 by omega) with rfl | rfl | rfl <;> rfl
theorem at_u8 {w : World} {A : Option Addr} {n : Nat} {xs : List Int} (h : Kd.C (Kd.int .u8) w A n xs) {i : Nat} {a : Int} (hi : xs[i]? = some a) : ∃ ad, A = some ad ∧ w.cell? (ad.add i) = some (.int .u8 a) := by
  have hl := (List.getElem?_eq_some_iff.1 hi).1
  obtain ⟨h1, _, h2⟩ := h
  obtain ⟨ad, hA, he⟩ := h2 (by omega)
  obtain ⟨c, hc, hK, hcell⟩ := he i a hi
  refine ⟨ad, hA, ?_⟩
  obtain rfl : c = [.int .u8 a] := hK
  have h3 : w.cell? (ad.add (i * 1 + 0)) = some (.int .u8 a) := hcell 0 _ rfl
  rwa [Nat.mul_one, Nat.add_zero] at h3
theorem may_input {k : Int} {r : S45} (hk : 0 ≤ k ∧ k ≤ 2) (hr : 0 ≤ r.f2 ∧ r.f2 ≤ 1099511627776) : mayE ⟨1, 0, 0, 0, k, r, false, [], []⟩ = true := by
  unfold mayE Rc.may
  rw [Bool.and_eq_true]
  constructor
  · unfold Rc.may0 Rc.num Rc.timeOk entOf
    simp
    omega
  · rw [List.all_eq_true]
    intro i hi
    rw [List.mem_range] at hi
    rcases (show i = 0 ∨ i = 1 ∨ i = 2 ∨ i = 3 ∨ i = 4 ∨ i = 5 ∨ i = 6 ∨ i = 7 by omega) with rfl | rfl | rfl | rfl | rfl | rfl | rfl | rfl <;> first | rfl | (rw [Bool.or_eq_true]; exact Or.inr (show Nat.testBit 24 3 = true by decide)) | (rw [Bool.or_eq_true]; exact Or.inr (show Nat.testBit 24 4 = true by decide))
/-- A record whose time may be. -/
def okR (r : S45) : S45 := if r.f2 < 0 ∨ 1099511627776 < r.f2 then { r with f2 := 1 } else r
theorem okR_ok (r : S45) : 0 ≤ (okR r).f2 ∧ (okR r).f2 ≤ 1099511627776 := by
  unfold okR
  split
  · exact ⟨by show (0 : Int) ≤ 1; omega, by show (1 : Int) ≤ 1099511627776; omega⟩
  · omega
def inE (k : Int) (r : S45) : S47 := ⟨1, 0, 0, 0, k, r, false, [], []⟩
theorem filt_in {xs : List S47} {F : Nat → List S45} (h : ∀ k : Nat, k < 3 → F k = (xs.filter fun x => x.f0 == 1 && (k : Int) == x.f4).map (·.f5)) (k : Nat) (r : S45) : ∀ j : Nat, j < 3 → upd F k (F k ++ [r]) j = ((xs ++ [inE (k : Int) r]).filter fun x => x.f0 == 1 && (j : Int) == x.f4).map (·.f5) := by
  intro j hj
  rw [List.filter_append, List.map_append]
  unfold upd
  by_cases e : j = k
  · subst e
    rw [if_pos rfl, h j hj, List.filter_cons_of_pos (by simp [inE])]
    rfl
  · rw [if_neg e, h j hj, List.filter_cons_of_neg (by simp [inE]; omega)]
    simp
theorem filt_out {xs : List S47} {F : Nat → List S45} (h : ∀ k : Nat, k < 3 → F k = (xs.filter fun x => x.f0 == 1 && (k : Int) == x.f4).map (·.f5)) {y : S47} (hy : y.f0 ≠ 1) : ∀ k : Nat, k < 3 → F k = ((xs ++ [y]).filter fun x => x.f0 == 1 && (k : Int) == x.f4).map (·.f5) := by
  intro k hk
  rw [List.filter_append, List.map_append, h k hk, List.filter_cons_of_neg (by simp [hy])]
  simp
set_option maxHeartbeats 4000000 in
theorem inputs_ok (A A' A'' : Option Addr) (n c n' c' n'' c'' : Nat) (rs : List S45) (ls : List Int) (es : List S47) (w : World) (hC : Kd.C k45 w A n rs) (hnc : n ≤ c) (hL : Kd.C (Kd.int .u8) w A' n' ls) (hnc' : n' ≤ c') (hU : ∀ a ∈ ls, 0 ≤ a ∧ a ≤ 255) (hE : Kd.C k47 w A'' n'' es) (hnc'' : n'' ≤ c'') : Calls Try.prog 8 #[.slice A n c, .slice A' n' c', .slice A'' n'' c''] w fun e w' => e = .returned (.bool true) ∧ Below w.heap.size w w' := by
  have HC0 := Aside0.mk hC
  have HL0 := Aside0.mk hL
  have HE0 := Aside0.mk hE
  have HU := Aside0.mk hU
  clear hC hL hE hU
  go_enter Try.func8, Try.ntmps8
  go_wp2_with fail
  refine (shown_ok w).mono ?_
  rintro e_ w1 ⟨rfl, hb_⟩
  have HC := Aside0.mk (Kd.C_below HC0.out hb_)
  have HL := Aside0.mk (Kd.C_below HL0.out hb_)
  have HE := Aside0.mk (Kd.C_below HE0.out hb_)
  have HBW := Aside0.mk hb_
  clear hb_ HC0 HL0 HE0
  go_upto_region 4 with fail
  have HA := Aside0.mk (heap_alloc_new w1 (.cells #[.slice none 0 0, .slice none 0 0, .slice none 0 0] 51))
  have HB12 := Aside0.mk (below_alloc (Below.refl w1.heap.size w1) (.cells #[.slice none 0 0, .slice none 0 0, .slice none 0 0] 51))
  generalize w1.alloc (.cells #[.slice none 0 0, .slice none 0 0, .slice none 0 0] 51) = w2 at HA HB12 ⊢
  obtain ⟨gw, HGW⟩ : ∃ g, Aside0 (w1.heap.size = g) := ⟨_, ⟨rfl⟩⟩
  rw [HGW.out] at HA ⊢
  have HGB : Aside0 (w1.heap.size ≤ gw) := ⟨by rw [HGW.out]; exact Nat.le_refl _⟩
  go_upto_block 0 with (fail)
  go_cut [8] (fun v_ wc => ∃ (m : Nat) (A5 : Option Addr) (c5 : Nat) (xs : List S47) (V : Nat → Value) (F : Nat → List S45), v_ = .slice A5 m c5 ∧ m ≤ 100 ∧ Aside0 (xs.length = m) ∧ Aside0 (EO w1 w2.heap.size wc (.slice A5 m c5) xs) ∧ Aside0 (∀ x ∈ xs, InE x) ∧ Aside0 (WR wc w2.heap.size gw V F) ∧ Aside0 (∀ k : Nat, k < 3 → F k = (xs.filter fun x => x.f0 == 1 && (k : Int) == x.f4).map (·.f5)) ∧ Aside0 (Below w1.heap.size w1 wc))
  case first =>
    go_wp2_with fail
    go_loopw [8, 10] (fun v_ vi wr => ∃ (i m : Nat) (A5 : Option Addr) (c5 : Nat) (xs : List S47) (V : Nat → Value) (F : Nat → List S45), i ≤ n ∧ i ≤ 50 ∧ vi = .int .i64 (i : Int) ∧ v_ = .slice A5 m c5 ∧ m ≤ 2 * i ∧ Aside0 (xs.length = m) ∧ Aside0 (EO w1 w2.heap.size wr (.slice A5 m c5) xs) ∧ Aside0 (∀ x ∈ xs, InE x) ∧ Aside0 (WR wr w2.heap.size gw V F) ∧ Aside0 (∀ k : Nat, k < 3 → F k = (xs.filter fun x => x.f0 == 1 && (k : Int) == x.f4).map (·.f5)) ∧ Aside0 (w2.heap.size ≤ wr.heap.size) ∧ Aside0 (Below w1.heap.size w1 wr)) (fun _ vi _ => 50 - (intOf vi).toNat)
    case atStart => exact ⟨0, 0, none, 0, [], _, _, Nat.zero_le _, Nat.zero_le _, rfl, rfl, Nat.le_refl _, ⟨rfl⟩, ⟨EO.nil _ _ _⟩, ⟨by simp⟩, ⟨WR.start HA.out⟩, ⟨fun _ _ => rfl⟩, ⟨Nat.le_refl _⟩, HB12⟩
    case round =>
      obtain ⟨i, m, A5, c5, xs, V, F, hi, hi2, rfl, rfl, hm, HXL, HEO, HP, HWR, HF, HSZ, HB2⟩ := hrel
      by_cases hlt : i < n
      · have h1 : decide ((i : Int) < (n : Int)) = true := by simp; omega
        have h1b : decide (i < n) = true := by simp; omega
        by_cases hl1 : i < n'
        · have h3 : decide ((i : Int) < (n' : Int)) = true := by simp; omega
          have h3b : decide (i < n') = true := by simp; omega
          by_cases hl2 : i < 50
          · have h2 : decide ((i : Int) < 50) = true := by simp; omega
            have h2b : decide (i < 50) = true := by simp; omega
            obtain ⟨x, hx⟩ : ∃ x, rs[i]? = some x := ⟨_, List.getElem?_eq_getElem (by rw [HC.out.1]; exact hlt)⟩
            obtain ⟨ad, rfl, hcells⟩ := at_T45 HC.out (i : Int) (Int.natCast_nonneg _) (Int.ofNat_lt.2 hlt)
            rw [show rd_T45 rs (i : Int) = x by unfold rd_T45; rw [Int.toNat_natCast, List.getD_eq_getElem?_getD, hx]; rfl] at hcells
            obtain ⟨x0_, x1_, x2_⟩ := hcells
            rw [Int.toNat_natCast] at x0_ x1_ x2_
            replace x0_ := pw_cell_below HB2.out x0_
            replace x1_ := pw_cell_below HB2.out x1_
            replace x2_ := pw_cell_below HB2.out x2_
            clear hx
            go_upto_region 8 with fail
            clear x0_ x1_ x2_
            have HX := Aside0.mk (heap_alloc_new wr (.cells #[.int .i64 x.f0, .int .i64 x.f1, .int .i64 x.f2] 45))
            have HBR := Aside0.mk (below_alloc (Below.refl wr.heap.size wr) (.cells #[.int .i64 x.f0, .int .i64 x.f1, .int .i64 x.f2] 45))
            generalize wr.alloc (.cells #[.int .i64 x.f0, .int .i64 x.f1, .int .i64 x.f2] 45) = wa at HX HBR ⊢
            obtain ⟨gx, HGX⟩ : ∃ g, Aside0 (wr.heap.size = g) := ⟨_, ⟨rfl⟩⟩
            rw [HGX.out] at HX ⊢
            have HGE : Aside0 (wr.heap.size ≤ gx) := ⟨by rw [HGX.out]; exact Nat.le_refl _⟩
            obtain ⟨q, HQ⟩ : ∃ q, Aside0 ((decide (x.f2 < 0) || decide (x.f2 > 1099511627776)) = q) := ⟨_, ⟨rfl⟩⟩
            go_cut [44] (fun vx wc => vx = .bool q ∧ wc = wa)
            case first =>
              have b2_ := (blk_cell HX.out 2).trans (rfl : _ = some (.int .i64 x.f2 : Value))
              by_cases ht1 : x.f2 < 0
              · have d1_ : decide (x.f2 < 0) = true := by simpa using ht1
                have HO : Aside0 (q = true) := ⟨by rw [← HQ.out, d1_]; rfl⟩
                clear ht1
                go_wp2_with fail
                go_meet
                case rel => exact ⟨by rw [HO.out], rfl⟩
              · have d1_ : decide (x.f2 < 0) = false := by simpa using ht1
                obtain ⟨q2, hq2⟩ : ∃ q2, decide (x.f2 > 1099511627776) = q2 := ⟨_, rfl⟩
                have hq3 : decide (1099511627776 < x.f2) = q2 := hq2
                have HO : Aside0 (q = q2) := ⟨by rw [← HQ.out, d1_, hq2]; rfl⟩
                clear ht1
                go_wp2_with fail
                go_meet
                case rel => exact ⟨by rw [HO.out], rfl⟩
            case rest =>
            obtain ⟨rfl, rfl⟩ := hcut
            rename World => wa
            go_upto_if 44 with (fail)
            go_cut [11] (fun vx wc => vx = .pointer (some ⟨gx, 0, none⟩) ∧ Aside0 (wc.heap[gx]? = some (.cells #[.int .i64 (okR x).f0, .int .i64 (okR x).f1, .int .i64 (okR x).f2] 45 (0, 0))) ∧ Aside0 (Below wr.heap.size wr wc))
            case first =>
              have f2_ := blk_frozen HX.out 2
              have b2_ := (blk_cell HX.out 2).trans (rfl : _ = some (.int .i64 x.f2 : Value))
              cases q with
              | true =>
                have HO : Aside0 (okR x = { x with f2 := 1 }) := ⟨if_pos (by have := HQ.out; simpa using this)⟩
                go_wp2_with fail
                go_meet
                case rel => rw [HO.out]; exact ⟨rfl, ⟨blk_put HX.out 2 (.int .i64 1) (rfl : _ = (#[.int .i64 x.f0, .int .i64 x.f1, .int .i64 1] : Array Value))⟩, ⟨HBR.out.setCell (p := ⟨gx, 2, none⟩) HGE.out _⟩⟩
              | false =>
                have HO : Aside0 (okR x = x) := ⟨if_neg (by have := HQ.out; simpa using this)⟩
                go_wp2_with fail
                go_meet
                case rel => rw [HO.out]; exact ⟨rfl, HX, HBR⟩
            case rest =>
              obtain ⟨rfl, HX, HBR⟩ := hcut
              rename World => wb
              obtain ⟨r, HRX⟩ : ∃ r, Aside0 (okR x = r) := ⟨_, ⟨rfl⟩⟩
              have HRT : Aside0 (0 ≤ r.f2 ∧ r.f2 ≤ 1099511627776) := ⟨by rw [← HRX.out]; exact okR_ok x⟩
              rw [HRX.out] at HX
              obtain ⟨a, ha⟩ : ∃ a, ls[i]? = some a := ⟨_, List.getElem?_eq_getElem (by rw [HL.out.1]; exact hl1)⟩
              obtain ⟨ad2, rfl, a_⟩ := at_u8 HL.out ha
              have hab := HU.out a (List.mem_of_getElem? ha)
              replace a_ := pw_cell_below (below_on HB2.out HB2.out.size HBR.out) a_
              clear ha
              go_upto_region 11 with fail
              clear a_
              obtain ⟨k, HK⟩ : ∃ k : Nat, Aside0 (a % 3 = (k : Int)) := ⟨(a % 3).toNat, ⟨by omega⟩⟩
              have hk3 : k < 3 := by have := HK.out; omega
              rw [HK.out]
              have b0_ := (blk_cell (HX.out) 0).trans (rfl : _ = some (.int .i64 r.f0 : Value))
              have b1_ := (blk_cell (HX.out) 1).trans (rfl : _ = some (.int .i64 r.f1 : Value))
              have b2_ := (blk_cell (HX.out) 2).trans (rfl : _ = some (.int .i64 r.f2 : Value))
              obtain ⟨v_, wd, hr_, he_, hg_, hat_, hbs_, hbb_, A6, c6, rfl⟩ := HEO.out.app1 HB2.out HSZ.out (inE (k : Int) r) none none 0 0 (C_nil w1) (Nat.le_refl 0) (C_nil w1) (Nat.le_refl 0) (below_alloc HBR.out (.cells #[.int .i64 1, .int .i64 0, .int .i64 0, .int .i64 0, .int .i64 (k : Int), .int .i64 r.f0, .int .i64 r.f1, .int .i64 r.f2, .bool false, .slice none 0 0, .slice none 0 0] 47)) (heap_alloc_new wb (.cells #[.int .i64 1, .int .i64 0, .int .i64 0, .int .i64 0, .int .i64 (k : Int), .int .i64 r.f0, .int .i64 r.f1, .int .i64 r.f2, .bool false, .slice none 0 0, .slice none 0 0] 47)) (by rw [HXL.out]; omega) 22 rfl
              rw [HXL.out] at hr_ he_
              have HR := Aside0.mk hr_
              have HEO2 := Aside0.mk he_
              have hkp_ := HEO.out.keep (below_alloc HBR.out (.cells #[.int .i64 1, .int .i64 0, .int .i64 0, .int .i64 0, .int .i64 (k : Int), .int .i64 r.f0, .int .i64 r.f1, .int .i64 r.f2, .bool false, .slice none 0 0, .slice none 0 0] 47)) hg_
              have HWR2 := Aside0.mk ((HWR.out.below (below_alloc HBR.out (.cells #[.int .i64 1, .int .i64 0, .int .i64 0, .int .i64 0, .int .i64 (k : Int), .int .i64 r.f0, .int .i64 r.f1, .int .i64 r.f2, .bool false, .slice none 0 0, .slice none 0 0] 47))).kept hkp_)
              have HX2 := Aside0.mk (hkp_ _ _ _ (by decide) (blk_below HX.out (below_alloc (Below.refl wb.heap.size wb) (.cells #[.int .i64 1, .int .i64 0, .int .i64 0, .int .i64 0, .int .i64 (k : Int), .int .i64 r.f0, .int .i64 r.f1, .int .i64 r.f2, .bool false, .slice none 0 0, .slice none 0 0] 47))))
              have HB3 := Aside0.mk (hbb_ _ w1 HB12.out.size HB2.out)
              have HSZ2 := Aside0.mk hbs_
              clear hr_ he_ hg_ hat_ hbs_ hbb_ hkp_
              obtain ⟨xs1, HX1⟩ : ∃ y, Aside0 (xs ++ [inE (k : Int) r] = y) := ⟨_, ⟨rfl⟩⟩
              have HP1 : Aside0 (∀ x ∈ xs1, InE x) := ⟨by rw [← HX1.out]; exact fun y hy => (List.mem_append.1 hy).elim (HP.out y) fun hy => by rw [List.mem_singleton] at hy; subst hy; exact .inl ⟨rfl, may_input ⟨by omega, by omega⟩ HRT.out⟩⟩
              have HXL1 : Aside0 (xs1.length = m + 1) := ⟨by rw [← HX1.out, List.length_append, HXL.out]; rfl⟩
              have HF1 : Aside0 (∀ j : Nat, j < 3 → upd F k (F k ++ [r]) j = (xs1.filter fun x => x.f0 == 1 && (j : Int) == x.f4).map (·.f5)) := ⟨by rw [← HX1.out]; exact filt_in HF.out k r⟩
              have HFL : Aside0 ((F k).length ≤ 1000000) := ⟨by rw [HF.out k hk3, List.length_map]; exact Nat.le_trans (List.length_filter_le _ _) (by rw [HXL.out]; omega)⟩
              rw [HX1.out] at HEO2
              go_upto_region 12 with (at_builtin; refine wpList_append_eq _ rfl (.tmp 52) (.tmp 56) 22 22 rfl _ _ rfl rfl HR.out ?_)
              clear b0_ b1_ b2_ HR HEO HWR HP HF HX HBR HB2 HX1 HXL HSZ
              obtain ⟨vk, HVK⟩ : ∃ v, Aside0 (V k = v) := ⟨_, ⟨rfl⟩⟩
              have hk3i : (k : Int) < 3 := by omega
              refine start_ (n := 9) (S := fun w' => Below wd.heap.size wd w') (ds := [6, 8]) #[false, false, false, false, false, false, false, false, false] (by kernel_rfl) rfl rfl (below_drew (Below.refl _ _)) (fun hHeld => ?_)
              refine pure_ (i := 0) (N := some 58) (v := ?_) (a' := ?_) #[true, false, false, false, false, false, false, false, false] rfl rfl (by kernel_rfl) (fun _ _ _ h => h) (Or.inl ⟨by rfl, ?_⟩) ?_ ?_
              rotate_left
              · intro w'
                go_simp
                with_reducible rfl
              rotate_left
              · simp only [Act.put, List.setIfInBounds_toArray, List.set_cons_zero, List.set_cons_succ, i64_w, i32_w]
                rfl
              refine pure_ (i := 1) (N := some 59) (v := ?_) (a' := ?_) #[true, true, false, false, false, false, false, false, false] rfl rfl (by kernel_rfl) (fun _ _ _ h => h) (Or.inl ⟨by rfl, ?_⟩) ?_ ?_
              rotate_left
              · intro w'
                go_simp
                with_reducible rfl
              rotate_left
              · simp only [Act.put, List.setIfInBounds_toArray, List.set_cons_zero, List.set_cons_succ, i64_w, i32_w]
                rfl
              refine pure_ (i := 2) (N := some 60) (v := ?_) (a' := ?_) #[true, true, true, false, false, false, false, false, false] rfl rfl (by kernel_rfl) (fun _ _ _ h => h) (Or.inl ⟨by rfl, ?_⟩) ?_ ?_
              rotate_left
              · intro w'
                go_simp
                with_reducible rfl
              rotate_left
              · simp only [Act.put, List.setIfInBounds_toArray, List.set_cons_zero, List.set_cons_succ, i64_w, i32_w]
                rfl
              refine take_ (i := 3) (N := some 61) (v := ?_) (a' := ?_) #[true, true, true, true, false, false, false, false, false] rfl rfl (by kernel_rfl) (fun _ _ _ h => h) (Or.inl ⟨by rfl, ?_⟩) hHeld ?_ ?_
              rotate_left
              · intro w' hS
                have c_ := cell_k (blk_below HWR2.out.arr hS) hk3
                rw [HVK.out] at c_
                go_simp
                with_reducible rfl
              rotate_left
              · simp only [Act.put, List.setIfInBounds_toArray, List.set_cons_zero, List.set_cons_succ, i64_w, i32_w]
                rfl
              refine take_ (i := 4) (N := some 62) (v := ?_) (a' := ?_) #[true, true, true, true, true, false, false, false, false] rfl rfl (by kernel_rfl) (fun _ _ _ h => h) (Or.inl ⟨by rfl, ?_⟩) hHeld ?_ ?_
              rotate_left
              · intro w' hS
                have b0_ := (blk_cell (blk_below HX2.out hS) 0).trans (rfl : _ = some (.int .i64 r.f0 : Value))
                have b1_ := (blk_cell (blk_below HX2.out hS) 1).trans (rfl : _ = some (.int .i64 r.f1 : Value))
                have b2_ := (blk_cell (blk_below HX2.out hS) 2).trans (rfl : _ = some (.int .i64 r.f2 : Value))
                go_simp
                with_reducible rfl
              rotate_left
              · simp only [Act.put, List.setIfInBounds_toArray, List.set_cons_zero, List.set_cons_succ, i64_w, i32_w]
                rfl
              refine one_ (i := 5) (N := some 63) #[true, true, true, true, true, true, false, false, false] rfl rfl (by kernel_rfl) (by simp) (fun K hK => ?_)
              refine value_ (w1 := wd.drew.alloc (.cells #[.int .i64 r.f0, .int .i64 r.f1, .int .i64 r.f2] 45)) (v := .slice (some ⟨wd.drew.heap.size, 0, none⟩) 1 1) (by rfl) rfl (by first | (go_simp; done) | (go_simp; rfl)) ?_
              have hb_ := below_alloc (Below.refl wd.drew.heap.size wd.drew) (.cells #[.int .i64 r.f0, .int .i64 r.f1, .int .i64 r.f2] 45)
              replace hb_ := below_step hHeld hb_
              refine hK.out _ _ hb_ (fun _ => ?_)
              clear hK K
              refine norm_ (a' := ?_) ?_ ?_
              rotate_left
              · show Act.put _ (some 63) _ = _
                simp only [Act.put, List.setIfInBounds_toArray, List.set_cons_zero, List.set_cons_succ, i64_w, i32_w]
                rfl
              have HNW := Aside0.mk (heap_alloc_new wd.drew (.cells #[.int .i64 r.f0, .int .i64 r.f1, .int .i64 r.f2] 45))
              replace hHeld := hb_
              generalize wd.drew.alloc (.cells #[.int .i64 r.f0, .int .i64 r.f1, .int .i64 r.f2] 45) = we at HNW hHeld hb_ ⊢
              obtain ⟨gl, HGL⟩ : ∃ g, Aside0 (wd.drew.heap.size = g) := ⟨_, ⟨rfl⟩⟩
              rw [HGL.out] at HNW ⊢
              clear hb_
              refine last_ (i := 6) (N := some 64) #[true, true, true, true, true, true, true, false, false] rfl rfl (by kernel_rfl) (by simp) (fun K hK => ?_)
              obtain ⟨v_, wf, hr_, hw_, harr_, hbel_, hk47_, hsz_, A7, c7, rfl⟩ := (HWR2.out.below hHeld).app (Nat.le_trans HSZ2.out hHeld.size) k hk3 r gl HNW.out HFL.out 33 rfl
              rw [HVK.out] at hr_
              have HWR3 := Aside0.mk hw_
              have HAR := Aside0.mk harr_
              have HEO3 := Aside0.mk ((HEO2.out.below hHeld).kept hk47_)
              have HB4 := Aside0.mk (hbel_ _ w1 HB12.out.size HGB.out (below_on HB3.out HB3.out.size hHeld))
              have HSZ3 := Aside0.mk (Nat.le_trans HSZ2.out (Nat.le_trans hHeld.size hsz_))
              refine value_ (w1 := wf) (v := .slice A7 ((F k).length + 1) c7) (by rfl) rfl (append_exec (.tmp 61) (.tmp 63) 33 rfl rfl rfl hr_) ?_
              clear hr_ hw_ harr_ hbel_ hk47_ hsz_ hHeld
              refine hK.out _ _ ?_
              clear hK K
              refine norm_ (a' := ?_) ?_ ?_
              rotate_left
              · show Act.put _ (some 64) _ = _
                simp only [Act.put, List.setIfInBounds_toArray, List.set_cons_zero, List.set_cons_succ, i64_w, i32_w]
                rfl
              refine pure_ (i := 7) (N := some 65) (v := ?_) (a' := ?_) #[true, true, true, true, true, true, true, true, false] rfl rfl (by kernel_rfl) (fun _ _ _ h => h) (Or.inl ⟨by rfl, ?_⟩) ?_ ?_
              rotate_left
              · intro w'
                go_simp
                with_reducible rfl
              rotate_left
              · simp only [Act.put, List.setIfInBounds_toArray, List.set_cons_zero, List.set_cons_succ, i64_w, i32_w]
                rfl
              refine last_ (i := 8) (N := none) #[true, true, true, true, true, true, true, true, true] rfl rfl (by kernel_rfl) (by simp) (fun K hK => ?_)
              have z_ := cell_k HAR.out hk3
              rw [HVK.out] at z_
              have f_ := blk_frozen HAR.out k
              refine skip_ (w1 := wf.setCell ⟨gw, k, none⟩ (.slice A7 ((F k).length + 1) c7)) (by rfl) rfl (by first | (go_simp; done) | (go_simp; rfl)) ?_
              clear z_ f_
              refine hK.out _ _ ?_
              clear hK K
              refine done_ (by kernel_rfl) ?_

              generalize wf.setCell ⟨gw, k, none⟩ (.slice A7 ((F k).length + 1) c7) = wg at HWR3 HEO3 HB4 HSZ3 ⊢
              clear HAR HWR2 HX2 HEO2 HB3 HSZ2 HVK hk3i HNW HGL
              by_cases hb1 : i < n''
              · have g1_ : decide ((i : Int) < (n'' : Int)) = true := by simp; omega
                have g1b_ : decide (i < n'') = true := by simp; omega
                obtain ⟨y, hy⟩ : ∃ x, es[i]? = some x := ⟨_, List.getElem?_eq_getElem (by rw [HE.out.1]; exact hb1)⟩
                obtain ⟨ad3, A9, c9, A10, c10, rfl, hcells⟩ := at_T47 HE.out (i : Int) (Int.natCast_nonneg _) (Int.ofNat_lt.2 hb1)
                rw [rd_eq hy] at hcells
                clear hy
                obtain ⟨y0_, y1_, y2_, y3_, y4_, y5_, y6_, y7_, y8_, y9_, y10_, l9, k9, l10, k10⟩ := hcells
                replace y0_ := pw_cell_below HB4.out y0_
                replace y1_ := pw_cell_below HB4.out y1_
                replace y2_ := pw_cell_below HB4.out y2_
                replace y3_ := pw_cell_below HB4.out y3_
                replace y4_ := pw_cell_below HB4.out y4_
                replace y5_ := pw_cell_below HB4.out y5_
                replace y6_ := pw_cell_below HB4.out y6_
                replace y7_ := pw_cell_below HB4.out y7_
                replace y8_ := pw_cell_below HB4.out y8_
                replace y9_ := pw_cell_below HB4.out y9_
                replace y10_ := pw_cell_below HB4.out y10_
                rw [Int.toNat_natCast] at y0_ y1_ y2_ y3_ y4_ y5_ y6_ y7_ y8_ y9_ y10_
                have HKY := Aside0.mk (And.intro (And.intro l9 k9) (And.intro l10 k10))
                clear l9 k9 l10 k10
                by_cases hin : y.f0 = 1
                · have n1_ : (y.f0 != 1) = false := by simp [hin]
                  clear hin
                  go_wp2_with fail
                  go_roundw
                  case rel => exact ⟨i + 1, m + 1, A6, c6, xs1, _, _, by omega, by omega, by go_num, rfl, by omega, HXL1, HEO3, HP1, HWR3, HF1, HSZ3, HB4⟩
                  case measure => simp [intOf]; omega
                · have n1_ : (y.f0 != 1) = true := by simp [hin]
                  have HNI := Aside0.mk hin
                  clear hin
                  go_upto_region 15 with fail
                  clear y0_ y1_ y2_ y3_ y4_ y5_ y6_ y7_ y8_ y9_ y10_
                  have HY := Aside0.mk (heap_alloc_new wg (.cells #[.int .i64 y.f0, .int .i64 y.f1, .int .i64 y.f2, .int .i64 y.f3, .int .i64 y.f4, .int .i64 y.f5.f0, .int .i64 y.f5.f1, .int .i64 y.f5.f2, .bool y.f6, .slice A9 y.f7.length c9, .slice A10 y.f8.length c10] 47))
                  have HBG := Aside0.mk (below_alloc (Below.refl wg.heap.size wg) (.cells #[.int .i64 y.f0, .int .i64 y.f1, .int .i64 y.f2, .int .i64 y.f3, .int .i64 y.f4, .int .i64 y.f5.f0, .int .i64 y.f5.f1, .int .i64 y.f5.f2, .bool y.f6, .slice A9 y.f7.length c9, .slice A10 y.f8.length c10] 47))
                  generalize wg.alloc (.cells #[.int .i64 y.f0, .int .i64 y.f1, .int .i64 y.f2, .int .i64 y.f3, .int .i64 y.f4, .int .i64 y.f5.f0, .int .i64 y.f5.f1, .int .i64 y.f5.f2, .bool y.f6, .slice A9 y.f7.length c9, .slice A10 y.f8.length c10] 47) = wh at HY HBG ⊢
                  obtain ⟨gy, HGY⟩ : ∃ g, Aside0 (wg.heap.size = g) := ⟨_, ⟨rfl⟩⟩
                  rw [HGY.out] at HY ⊢
                  have HGE2 : Aside0 (wg.heap.size ≤ gy) := ⟨by rw [HGY.out]; exact Nat.le_refl _⟩
                  have hbt : 0 ≤ bits .and .i64 y.f4 7 ∧ bits .and .i64 y.f4 7 ≤ 7 := bits_small y.f4 7 (by omega)
                  have hw_ : wrap64 (3 + bits .and .i64 y.f4 7) = 3 + bits .and .i64 y.f4 7 := by unfold wrap64; omega
                  obtain ⟨q, HQQ⟩ : ∃ q, Aside0 (3 + bits .and .i64 y.f4 7 = q) := ⟨_, ⟨rfl⟩⟩
                  have HQB : Aside0 (3 ≤ q) := ⟨by rw [← HQQ.out]; omega⟩
                  clear hbt
                  have z4_ := (blk_cell HY.out 4).trans (rfl : _ = some (.int .i64 y.f4 : Value))
                  have f4_ := blk_frozen HY.out 4
                  go_upto_region 16 with fail
                  clear z4_ f4_
                  try rw [hw_]
                  rw [HQQ.out]
                  clear hw_
                  replace HY := Aside0.mk (blk_put HY.out 4 (.int .i64 q) (rfl : _ = (#[.int .i64 y.f0, .int .i64 y.f1, .int .i64 y.f2, .int .i64 y.f3, .int .i64 q, .int .i64 y.f5.f0, .int .i64 y.f5.f1, .int .i64 y.f5.f2, .bool y.f6, .slice A9 y.f7.length c9, .slice A10 y.f8.length c10] : Array Value)))
                  replace HBG := Aside0.mk (HBG.out.setCell (p := ⟨gy, 4, none⟩) HGE2.out (.int .i64 q))
                  generalize wh.setCell ⟨gy, 4, none⟩ (.int .i64 q) = wi at HBG HY ⊢
                  have b0_ := (blk_cell (HY.out) 0).trans (rfl : _ = some (.int .i64 y.f0 : Value))
                  have b1_ := (blk_cell (HY.out) 1).trans (rfl : _ = some (.int .i64 y.f1 : Value))
                  have b2_ := (blk_cell (HY.out) 2).trans (rfl : _ = some (.int .i64 y.f2 : Value))
                  have b3_ := (blk_cell (HY.out) 3).trans (rfl : _ = some (.int .i64 y.f3 : Value))
                  have b4_ := (blk_cell (HY.out) 4).trans (rfl : _ = some (.int .i64 q : Value))
                  have b5_ := (blk_cell (HY.out) 5).trans (rfl : _ = some (.int .i64 y.f5.f0 : Value))
                  have b6_ := (blk_cell (HY.out) 6).trans (rfl : _ = some (.int .i64 y.f5.f1 : Value))
                  have b7_ := (blk_cell (HY.out) 7).trans (rfl : _ = some (.int .i64 y.f5.f2 : Value))
                  have b8_ := (blk_cell (HY.out) 8).trans (rfl : _ = some (.bool y.f6 : Value))
                  have b9_ := (blk_cell (HY.out) 9).trans (rfl : _ = some (.slice A9 y.f7.length c9 : Value))
                  have b10_ := (blk_cell (HY.out) 10).trans (rfl : _ = some (.slice A10 y.f8.length c10 : Value))
                  obtain ⟨v_, wj, hr_, he_, hg_, hat_, hbs_, hbb_, A8, c8, rfl⟩ := HEO3.out.app1 HB4.out HSZ3.out ({ y with f4 := q } : S47) A9 A10 c9 c10 HKY.out.1.2 HKY.out.1.1 HKY.out.2.2 HKY.out.2.1 (below_alloc HBG.out (.cells #[.int .i64 y.f0, .int .i64 y.f1, .int .i64 y.f2, .int .i64 y.f3, .int .i64 q, .int .i64 y.f5.f0, .int .i64 y.f5.f1, .int .i64 y.f5.f2, .bool y.f6, .slice A9 y.f7.length c9, .slice A10 y.f8.length c10] 47)) (heap_alloc_new wi (.cells #[.int .i64 y.f0, .int .i64 y.f1, .int .i64 y.f2, .int .i64 y.f3, .int .i64 q, .int .i64 y.f5.f0, .int .i64 y.f5.f1, .int .i64 y.f5.f2, .bool y.f6, .slice A9 y.f7.length c9, .slice A10 y.f8.length c10] 47)) (by rw [HXL1.out]; omega) 22 rfl
                  rw [HXL1.out] at hr_ he_
                  have HR := Aside0.mk hr_
                  have HEO4 := Aside0.mk he_
                  have hkp_ := HEO3.out.keep (below_alloc HBG.out (.cells #[.int .i64 y.f0, .int .i64 y.f1, .int .i64 y.f2, .int .i64 y.f3, .int .i64 q, .int .i64 y.f5.f0, .int .i64 y.f5.f1, .int .i64 y.f5.f2, .bool y.f6, .slice A9 y.f7.length c9, .slice A10 y.f8.length c10] 47)) hg_
                  have HWR4 := Aside0.mk ((HWR3.out.below (below_alloc HBG.out (.cells #[.int .i64 y.f0, .int .i64 y.f1, .int .i64 y.f2, .int .i64 y.f3, .int .i64 q, .int .i64 y.f5.f0, .int .i64 y.f5.f1, .int .i64 y.f5.f2, .bool y.f6, .slice A9 y.f7.length c9, .slice A10 y.f8.length c10] 47))).kept hkp_)
                  have HB5 := Aside0.mk (hbb_ _ w1 HB12.out.size HB4.out)
                  have HSZ4 := Aside0.mk hbs_
                  clear hr_ he_ hg_ hat_ hbs_ hbb_ hkp_
                  go_wp2_with (at_builtin; refine wpList_append_eq _ rfl (.tmp 87) (.tmp 89) 22 22 rfl _ _ rfl rfl HR.out ?_)
                  go_roundw
                  case rel => exact ⟨i + 1, m + 1 + 1, A8, c8, _, _, _, by omega, by omega, by go_num, rfl, by omega, ⟨by rw [List.length_append, HXL1.out]; rfl⟩, HEO4, ⟨fun z hz => (List.mem_append.1 hz).elim (HP1.out z) fun hz => by rw [List.mem_singleton] at hz; subst hz; exact .inr ⟨HNI.out, HQB.out⟩⟩, HWR4, ⟨filt_out HF1.out HNI.out⟩, HSZ4, HB5⟩
                  case measure => simp [intOf]; omega
              · have g1_ : decide ((i : Int) < (n'' : Int)) = false := by simp; omega
                have g1b_ : decide (i < n'') = false := by simp; omega
                go_wp2_with fail
                go_roundw
                case rel => exact ⟨i + 1, m + 1, A6, c6, xs1, _, _, by omega, by omega, by go_num, rfl, by omega, HXL1, HEO3, HP1, HWR3, HF1, HSZ3, HB4⟩
                case measure => simp [intOf]; omega
          · have h2 : decide ((i : Int) < 50) = false := by simp; omega
            have h2b : decide (i < 50) = false := by simp; omega
            go_wp2_with fail
            go_meet
            case rel => exact ⟨m, A5, c5, xs, V, F, rfl, by omega, HXL, HEO, HP, HWR, HF, HB2⟩
        · have h3 : decide ((i : Int) < (n' : Int)) = false := by simp; omega
          have h3b : decide (i < n') = false := by simp; omega
          go_wp2_with fail
          go_meet
          case rel => exact ⟨m, A5, c5, xs, V, F, rfl, by omega, HXL, HEO, HP, HWR, HF, HB2⟩
      · have h1 : decide ((i : Int) < (n : Int)) = false := by simp; omega
        have h1b : decide (i < n) = false := by simp; omega
        go_wp2_with fail
        go_meet
        case rel => exact ⟨m, A5, c5, xs, V, F, rfl, by omega, HXL, HEO, HP, HWR, HF, HB2⟩
  case rest =>
  obtain ⟨m, A5, c5, xs, V, F, rfl, hm, HXL, HEO, HP, HWR, HF, HB⟩ := hcut
  rename World => w3
  obtain ⟨B1, d1, e_, hd1, _, hbc⟩ := HEO.out.C HB.out
  rw [HXL.out] at e_ hd1 hbc
  obtain ⟨rfl, rfl⟩ : A5 = B1 ∧ c5 = d1 := by injection e_ with e1 _ e2; exact ⟨e1, e2⟩
  replace HB := Aside0.mk (below_step HBW.out HB.out)
  clear e_ HEO HC HL HE HB12 HA HBW
  go_wp2_with fail
  refine (read_ok A5 m c5 xs w3 hbc (by omega) hd1).mono ?_
  rintro e_ w4 ⟨C1, e1, C2, e2, rfl, hb_, q1_, g1_, q2_, g2_⟩
  rw [HXL.out]
  obtain ⟨L1, HLL⟩ : ∃ x, Aside0 ((readV xs).f0 = x) := ⟨_, ⟨rfl⟩⟩
  obtain ⟨T1, HTT⟩ : ∃ x, Aside0 ((readV xs).f1 = x) := ⟨_, ⟨rfl⟩⟩
  have HLB : Aside0 (L1.length ≤ 1000000) := ⟨by
    have e := congrArg List.length (told_keys xs)
    rw [List.length_map, HLL.out] at e
    unfold sortI at e
    rw [List.length_mergeSort, List.length_map] at e
    have h1 := (StInv.through xs).bl.1
    have h2 := Nat.mul_le_mul (show xs.length ≤ 100 by rw [HXL.out]; omega) (show xs.length ≤ 100 by rw [HXL.out]; omega)
    omega⟩
  have HGT : Aside0 (∀ k : Nat, k < 3 → (getLV L1 (k : Int)).f1 = F k) := ⟨fun k hk => by rw [← HLL.out, told_get, inputs_told HP.out (by omega), HF.out k hk]⟩
  have HFL : Aside0 (∀ k : Nat, k < 3 → (F k).length ≤ 100) := ⟨fun k hk => by rw [HF.out k hk, List.length_map]; exact Nat.le_trans (List.length_filter_le _ _) (by rw [HXL.out]; omega)⟩
  rw [HLL.out] at q1_ g1_ ⊢
  rw [HTT.out] at q2_ g2_ ⊢
  obtain ⟨p1, HP1⟩ : ∃ x, Aside0 (L1.length = x) := ⟨_, ⟨rfl⟩⟩
  obtain ⟨p2, HP2⟩ : ∃ x, Aside0 (T1.length = x) := ⟨_, ⟨rfl⟩⟩
  rw [HP1.out] at q1_ g1_ HLB ⊢
  rw [HP2.out] at q2_ g2_ ⊢
  have HG1 := Aside0.mk (And.intro g1_ q1_)
  have HWR2 := Aside0.mk (HWR.out.below hb_)
  replace HB := Aside0.mk (below_step HB.out hb_)
  clear hb_ q1_ g1_ q2_ g2_ hbc hd1 HWR HF HP
  go_upto_region 18 with fail
  have HOA := Aside0.mk (heap_alloc_new w4 (.cells #[.slice C1 p1 e1, .slice C2 p2 e2, .int .i64 (m : Int)] 29))
  have hb_ := below_alloc (Below.refl w4.heap.size w4) (.cells #[.slice C1 p1 e1, .slice C2 p2 e2, .int .i64 (m : Int)] 29)
  have hs_ : (w4.alloc (.cells #[.slice C1 p1 e1, .slice C2 p2 e2, .int .i64 (m : Int)] 29)).heap.size = w4.heap.size + 1 := by simp
  generalize w4.alloc (.cells #[.slice C1 p1 e1, .slice C2 p2 e2, .int .i64 (m : Int)] 29) = w5 at HOA hb_ hs_ ⊢
  replace HB := Aside0.mk (below_step HB.out hb_)
  replace HG1 := Aside0.mk (And.intro (Kd.C_below HG1.out.1 hb_) HG1.out.2)
  replace HWR2 := Aside0.mk (HWR2.out.below hb_)
  clear hb_
  clear hs_
  obtain ⟨ga, Hga⟩ : ∃ g, Aside0 (w4.heap.size = g) := ⟨_, ⟨rfl⟩⟩
  rw [Hga.out] at HOA ⊢
  go_wp2_with fail
  go_loopw [15] (fun v15 wr => ∃ k : Nat, k ≤ 3 ∧ v15 = .int .i64 (k : Int) ∧ Aside0 (Below w5.heap.size w5 wr)) (fun v15 _ => 3 - (intOf v15).toNat)
  case atStart => exact ⟨0, Nat.zero_le _, rfl, ⟨Below.refl _ _⟩⟩
  case round =>
    obtain ⟨k, hk, rfl, HB2⟩ := hrel
    by_cases hlt : k < 3
    · have h1 : decide ((k : Int) < 3) = true := by simp; omega
      have h1b : decide (k < 3) = true := by simp; omega
      have hk3i : (k : Int) < 3 := by omega
      have HOAr := Aside0.mk (blk_below HOA.out HB2.out)
      have HWRr := Aside0.mk (HWR2.out.below HB2.out)
      have HG1r := Aside0.mk (Kd.C_below HG1.out.1 HB2.out)
      obtain ⟨Ak, ck, hvk, hck, hkc⟩ := recC (HWRr.out.own k) rfl
      have HVK := Aside0.mk hvk
      have HKC := Aside0.mk (And.intro hck hkc)
      clear hvk hck hkc
      have hpl := HLB.out
      go_upto_region 21 with fail
      refine start_ (n := 9) (S := fun w' => Below wr.heap.size wr w') (ds := []) #[false, false, false, false, false, false, false, false, false] (by kernel_rfl) rfl rfl (below_drew (Below.refl _ _)) (fun hHeld => ?_)
      refine pure_ (i := 1) (N := some 98) (v := ?_) (a' := ?_) #[false, true, false, false, false, false, false, false, false] rfl rfl (by kernel_rfl) (fun _ _ _ h => h) (Or.inl ⟨by rfl, ?_⟩) ?_ ?_
      rotate_left
      · intro w'
        go_simp
        with_reducible rfl
      rotate_left
      · simp only [Act.put, List.setIfInBounds_toArray, List.set_cons_zero, List.set_cons_succ, i64_w, i32_w]
        rfl
      refine pure_ (i := 4) (N := some 101) (v := ?_) (a' := ?_) #[false, true, false, false, true, false, false, false, false] rfl rfl (by kernel_rfl) (fun _ _ _ h => h) (Or.inl ⟨by rfl, ?_⟩) ?_ ?_
      rotate_left
      · intro w'
        go_simp
        with_reducible rfl
      rotate_left
      · simp only [Act.put, List.setIfInBounds_toArray, List.set_cons_zero, List.set_cons_succ, i64_w, i32_w]
        rfl
      refine pure_ (i := 5) (N := some 102) (v := ?_) (a' := ?_) #[false, true, false, false, true, true, false, false, false] rfl rfl (by kernel_rfl) (fun _ _ _ h => h) (Or.inl ⟨by rfl, ?_⟩) ?_ ?_
      rotate_left
      · intro w'
        go_simp
        with_reducible rfl
      rotate_left
      · simp only [Act.put, List.setIfInBounds_toArray, List.set_cons_zero, List.set_cons_succ, i64_w, i32_w]
        rfl
      refine take_ (i := 0) (N := some 97) (v := ?_) (a' := ?_) #[true, true, false, false, true, true, false, false, false] rfl rfl (by kernel_rfl) (fun _ _ _ h => h) (Or.inl ⟨by rfl, ?_⟩) hHeld ?_ ?_
      rotate_left
      · intro w' hS
        have b0_ := (blk_cell (blk_below HOAr.out hS) 0).trans (rfl : _ = some (.slice C1 p1 e1 : Value))
        have b1_ := (blk_cell (blk_below HOAr.out hS) 1).trans (rfl : _ = some (.slice C2 p2 e2 : Value))
        have b2_ := (blk_cell (blk_below HOAr.out hS) 2).trans (rfl : _ = some (.int .i64 (m : Int) : Value))
        go_simp
        with_reducible rfl
      rotate_left
      · simp only [Act.put, List.setIfInBounds_toArray, List.set_cons_zero, List.set_cons_succ, i64_w, i32_w]
        rfl
      refine take_ (i := 6) (N := some 103) (v := ?_) (a' := ?_) #[true, true, false, false, true, true, true, false, false] rfl rfl (by kernel_rfl) (fun _ _ _ h => h) (Or.inl ⟨by rfl, ?_⟩) hHeld ?_ ?_
      rotate_left
      · intro w' hS
        have c_ := cell_k (blk_below HWRr.out.arr hS) hlt
        rw [HVK.out] at c_
        go_simp
        with_reducible rfl
      rotate_left
      · simp only [Act.put, List.setIfInBounds_toArray, List.set_cons_zero, List.set_cons_succ, i64_w, i32_w]
        rfl
      refine one_ (i := 2) (N := some 99) #[true, true, true, false, true, true, true, false, false] rfl rfl (by kernel_rfl) (by simp) (fun K hK => ?_)
      refine goes_ Try.func16 (by kernel_rfl) rfl #[.agg #[.slice C1 p1 e1, .slice C2 p2 e2, .int .i64 (m : Int)], .int .i64 (k : Int)] (by rfl) rfl rfl (by simp only [List.map_toArray, List.map_cons, List.map_nil]; rfl) ?_
      with_reducible refine (log_ok C1 C2 p1 e1 p2 e2 _ (k : Int) L1 _ (Kd.C_below HG1r.out hHeld) (by omega) HG1.out.2).mono ?_
      rintro e_ w7 ⟨Y1, dy1, Y2, dy2, rfl, hb_, hy1_, gy1_, hy2_, gy2_⟩
      refine ⟨_, rfl, ?_⟩
      replace hb_ := below_step hHeld hb_
      refine hK.out _ _ hb_ (fun _ => ?_)
      clear hK K
      refine norm_ (a' := ?_) ?_ ?_
      rotate_left
      · show Act.put _ (some 99) _ = _
        simp only [Act.put, List.setIfInBounds_toArray, List.set_cons_zero, List.set_cons_succ, i64_w, i32_w]
        rfl
      have HGK := Aside0.mk (HGT.out k hlt)
      obtain ⟨y, HY⟩ : ∃ y, Aside0 (getLV L1 (k : Int) = y) := ⟨_, ⟨rfl⟩⟩
      rw [HY.out] at HGK
      rw [HY.out] at hy1_ gy1_ ⊢
      rw [HGK.out] at hy1_ gy1_ ⊢
      have HYC := Aside0.mk (And.intro hy1_ gy1_)
      clear hy1_ gy1_ hy2_ gy2_
      replace hHeld := hb_
      clear hb_
      refine pure_ (i := 3) (N := some 100) (v := ?_) (a' := ?_) #[true, true, true, true, true, true, true, false, false] rfl rfl (by kernel_rfl) (fun _ _ _ h => h) (Or.inl ⟨by rfl, ?_⟩) ?_ ?_
      rotate_left
      · intro w'
        have fr_ := field_recs y.f0 Y1 Y2 (F k).length dy1 y.f2.length dy2 w'
        go_simp
        with_reducible rfl
      rotate_left
      · simp only [Act.put, List.setIfInBounds_toArray, List.set_cons_zero, List.set_cons_succ, i64_w, i32_w]
        rfl
      refine one_ (i := 7) (N := some 104) #[true, true, true, true, true, true, true, true, false] rfl rfl (by kernel_rfl) (by simp) (fun K hK => ?_)
      refine goes_ Try.func17 (by kernel_rfl) rfl #[.slice Y1 (F k).length dy1, .slice Ak (F k).length ck] (by rfl) rfl rfl (by simp only [List.map_toArray, List.map_cons, List.map_nil]; rfl) ?_
      with_reducible refine (tidemillref11_Recs.calls ((F k).length + 1) Y1 dy1 (F k) Ak ck (F k) true _ HYC.out.2 HYC.out.1 (Kd.C_below HKC.out.2 hHeld) HKC.out.1 (recs_same (F k) (Nat.le_trans (HFL.out k hlt) (by omega)))).mono ?_
      rintro e_ w8 ⟨rfl, hd_⟩
      refine ⟨_, rfl, ?_⟩
      have hb_ := hd_.below
      clear hd_
      replace hb_ := below_step hHeld hb_
      refine hK.out _ _ hb_ (fun _ => ?_)
      clear hK K
      refine norm_ (a' := ?_) ?_ ?_
      rotate_left
      · show Act.put _ (some 104) _ = _
        simp only [Act.put, List.setIfInBounds_toArray, List.set_cons_zero, List.set_cons_succ, i64_w, i32_w]
        rfl
      have HB3 := Aside0.mk (below_step HB2.out hb_)
      clear hb_
      refine pure_ (i := 8) (N := some 105) (v := ?_) (a' := ?_) #[true, true, true, true, true, true, true, true, true] rfl rfl (by kernel_rfl) (fun _ _ _ h => h) (Or.inl ⟨by rfl, ?_⟩) ?_ ?_
      rotate_left
      · intro w'
        go_simp
        with_reducible rfl
      rotate_left
      · simp only [Act.put, List.setIfInBounds_toArray, List.set_cons_zero, List.set_cons_succ, i64_w, i32_w]
        rfl
      refine done_ (by kernel_rfl) ?_

      go_wp2_with fail
      go_roundw
      case rel => exact ⟨k + 1, by omega, by go_num, HB3⟩
      case measure => simp [intOf]; omega
    · obtain rfl : k = 3 := by omega
      have h1 : decide (((3 : Nat) : Int) < 3) = false := by simp
      have o2_ := (blk_cell (blk_below HOA.out HB2.out) 2).trans (rfl : _ = some (.int .i64 (m : Int) : Value))
      have e2_ : ((m : Int) == (m : Int)) = true := by simp
      go_wp2_with fail
      go_ret
      exact ⟨rfl, below_step HB.out HB2.out⟩
end Go.Proofs.Ytmnglonjekegcaa.Vw
namespace Go.Proofs.Ytmnglonjekegcaa.Vw
open Go Go.RowKit Go.Proofs.YtmnglonjekegcaaW.PrintWords Go.Proofs.Ytmnglonjekegcaa.Opn Go.Proofs.Ytmnglonjekegcaa.Rp Go.Proofs.Ytmnglonjekegcaa.Rc
set_option linter.unusedVariables false
set_option linter.unusedSimpArgs false
theorem opens_Es {H : Type} {enc : TypeId × Value → H} : Opens enc Try.prog (Kd.slice 47 k47) 22 (GSlice fun v (_ : DataW H) => entOk v) :=
  opens_slice Try.underlying22 opens_Ent (by kernel_rfl)
end Go.Proofs.Ytmnglonjekegcaa.Vw
namespace Go.Proofs.Ytmnglonjekegcaa.Vw
open Go Go.RowKit Go.Proofs.YtmnglonjekegcaaW.PrintWords Go.Proofs.Ytmnglonjekegcaa.Opn Go.Proofs.Ytmnglonjekegcaa.Rp Go.Proofs.Ytmnglonjekegcaa.Rc
theorem opens_Rs {H : Type} {enc : TypeId × Value → H} : Opens enc Try.prog (Kd.slice 45 k45) 33 (GSlice fun v (_ : DataW H) => recOk v) :=
  opens_slice Try.underlying33 opens_R (by kernel_rfl)
theorem wfv_u8 {n : Int} (h : (Lit.int .u8 n).wf = true) : 0 ≤ n ∧ n ≤ 255 := by
  simp [Lit.wf, IntKind.min, IntKind.max, IntKind.bits, IntKind.signed] at h
  omega
end Go.Proofs.Ytmnglonjekegcaa.Vw
