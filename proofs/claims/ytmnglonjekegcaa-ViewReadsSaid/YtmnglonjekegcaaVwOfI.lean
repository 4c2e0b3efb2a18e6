/- Texts of this claim, joined. -/
import Derived.Test.YtmnglonjekegcaaVwGr
import Derived.Test.YtmnglonjekegcaaVwE1
namespace Go.Proofs.Ytmnglonjekegcaa.Vw
open Go Go.RowKit Go.Proofs.Ytmnglonjekegcaa.Rp
set_option linter.unusedVariables false
set_option linter.unusedSimpArgs false
/-- A task as the document has it: open places, those of committed records, and of their commits. -/
structure OS where
  s : TS
  d : List Int
  a : List Int
def opens (s : TS) : List Int := s.o.map Prod.fst
def isCm (s : TS) (x : S47) : Prop := x.f0 = 3 ∧ x.f2 = s.t.f1 ∧ x.f3 = s.t.f2
instance (s : TS) (x : S47) : Decidable (isCm s x) := by unfold isCm; infer_instance
def mine (k : Int) (x : S47) : Bool := tk x && (x.f1 == k)
def stepOS (i : Int) (x : S47) (o : OS) : OS := ⟨stepO i x o.s, if isCm o.s x then o.d ++ opens o.s else o.d, if isCm o.s x then o.a ++ (opens o.s).map (fun _ => i) else o.a⟩
def runOS (i : Int) (o : OS) (k : Int) : List S47 → OS
  | [] => o
  | x :: l => runOS (i + 1) (if mine k x = true then stepOS i x o else o) k l
def ofO (l : List S47) (k : Int) : OS := runOS 0 ⟨newT k, [], []⟩ k l
theorem runOS_snoc (l : List S47) (x : S47) (k : Int) : ∀ (i : Int) (o : OS), runOS i o k (l ++ [x]) = (if mine k x = true then stepOS (i + l.length) x (runOS i o k l) else runOS i o k l) := by
  induction l with
  | nil => intro i o; simp [runOS]
  | cons y l ih =>
    intro i o
    rw [List.cons_append, runOS, ih, runOS, List.length_cons]
    simp only [Int.natCast_add, Int.natCast_one, show i + 1 + (l.length : Int) = i + ((l.length : Int) + 1) by omega]
theorem ofO_snoc (l : List S47) (x : S47) (k : Int) : ofO (l ++ [x]) k = if mine k x = true then stepOS l.length x (ofO l k) else ofO l k := by
  unfold ofO
  rw [runOS_snoc, Int.zero_add]
theorem runOS_s (k : Int) (l : List S47) : ∀ (i : Int) (o : OS), (runOS i o k l).s = runO i o.s k l := by
  induction l with
  | nil => exact fun _ _ => rfl
  | cons x l ih =>
    intro i o
    rw [runOS, ih, runO]
    congr 1
    by_cases h : mine k x = true
    · have h2 : tk x = true ∧ k = x.f1 := by unfold mine at h; simp only [Bool.and_eq_true, beq_iff_eq] at h; exact ⟨h.1, h.2.symm⟩
      rw [if_pos h, if_pos h2]
      rfl
    · have h2 : ¬ (tk x = true ∧ k = x.f1) := fun e => h (by unfold mine; simp [e.1, e.2])
      rw [if_neg h, if_neg h2]
/-- Its task is the one that is told. -/
theorem ofO_s (l : List S47) (k : Int) : (ofO l k).s = getT (throughV l).T k := by
  unfold ofO
  rw [runOS_s, through_split]
  show _ = getT (goT [] 0 l) k
  rw [getT_go]
  rfl
def namedV (l : List S47) (k : Int) : Bool := l.any (mine k)
theorem named_snoc (l : List S47) (x : S47) (k : Int) : namedV (l ++ [x]) k = (namedV l k || mine k x) := by unfold namedV; simp
/-- How much it holds. -/
structure OInv (i : Nat) (k : Int) (o : OS) : Prop where
  key : o.s.t.f0 = k
  op : o.s.o.length + o.d.length ≤ i
  da : o.a.length = o.d.length
  f2 : 0 ≤ o.s.t.f2 ∧ o.s.t.f2 ≤ i
  f4 : o.s.t.f4.length ≤ i * 256
  f5 : o.s.t.f5 = 0
theorem OInv.start (k : Int) : OInv 0 k ⟨newT k, [], []⟩ := ⟨rfl, by simp [newT], rfl, by simp [newT], by simp [newT], rfl⟩
theorem OInv.mono {i j : Nat} {k : Int} {o : OS} (h : OInv i k o) (hj : i ≤ j) : OInv j k o :=
  ⟨h.key, Nat.le_trans h.op hj, h.da, ⟨h.f2.1, Int.le_trans h.f2.2 (Int.ofNat_le.2 hj)⟩, Nat.le_trans h.f4 (Nat.mul_le_mul_right 256 hj), h.f5⟩
theorem OInv.step {i : Nat} {k : Int} {o : OS} (h : OInv i k o) (at_ : Int) {x : S47} (hx : tk x = true) : OInv (i + 1) k (stepOS at_ x o) := by
  have hn := may_nums (tk_of hx).1
  have h1 := h.op
  have h2 := h.da
  have h3 := h.f2
  have h4 := h.f4
  obtain ⟨⟨⟨f0, f1, f2, f3, f4, f5⟩, op⟩, d, a⟩ := o
  have hm := h.mono (Nat.le_succ i)
  have hk := h.key
  have h5 := h.f5
  simp only at h1 h2 h3 h4 hk h5
  by_cases hc : isCm ⟨⟨f0, f1, f2, f3, f4, f5⟩, op⟩ x
  · obtain ⟨c0, c1, c2⟩ := hc
    have hs : stepOS at_ x ⟨⟨⟨f0, f1, f2, f3, f4, f5⟩, op⟩, d, a⟩ = ⟨⟨⟨f0, f1, f2 + 1, x.f7, f4 ++ x.f8, f5⟩, []⟩, d ++ op.map Prod.fst, a ++ (op.map Prod.fst).map fun _ => at_⟩ := by
      unfold stepOS
      rw [if_pos ⟨c0, c1, c2⟩, if_pos ⟨c0, c1, c2⟩]
      unfold stepO
      rw [if_neg (by omega), if_neg (fun e => e.elim (fun e => e c1) (fun e => e c2)), if_neg (by omega), if_pos c0]
      rfl
    rw [hs]
    refine ⟨hk, ?_, ?_, ?_, ?_, h5⟩
    · simp only [List.length_append, List.length_map, List.length_nil]; omega
    · simp only [List.length_append, List.length_map]; omega
    · simp only; omega
    · simp only [List.length_append]; exact f4_app h4 hn.2.2.2.2.2.1
  · have hs : stepOS at_ x ⟨⟨⟨f0, f1, f2, f3, f4, f5⟩, op⟩, d, a⟩ = ⟨stepO at_ x ⟨⟨f0, f1, f2, f3, f4, f5⟩, op⟩, d, a⟩ := by
      unfold stepOS
      rw [if_neg hc, if_neg hc]
    rw [hs]
    unfold stepO
    split
    · split
      · exact ⟨hk, by simp only [fenceT, List.length_nil]; omega, h2, by simp only [fenceT]; omega, f4_le h4, h5⟩
      · exact hm
    · split
      · exact hm
      · rename_i hne
        split
        · exact ⟨hk, by simp only [openT, List.length_append, List.length_cons, List.length_nil]; omega, h2, by simp only [openT]; omega, f4_le h4, h5⟩
        · split
          · rename_i h3'
            exact absurd ⟨h3', Decidable.byContradiction fun e => hne (.inl e), Decidable.byContradiction fun e => hne (.inr e)⟩ hc
          · exact ⟨hk, by simp only [endT, List.length_nil]; omega, h2, by simp only [endT]; omega, f4_le h4, h5⟩
theorem OInv.of (l : List S47) (k : Int) : OInv l.length k (ofO l k) := by
  have key : ∀ m, m ≤ l.length → OInv m k (ofO (l.take m) k) := by
    intro m
    induction m with
    | zero => intro _; rw [List.take_zero]; exact OInv.start k
    | succ m ih =>
      intro hm
      rw [List.take_succ_eq_append_getElem (by omega), ofO_snoc]
      split
      · rename_i h
        exact (ih (by omega)).step _ (by unfold mine at h; simp only [Bool.and_eq_true] at h; exact h.1)
      · exact (ih (by omega)).mono (Nat.le_succ m)
  have := key l.length (Nat.le_refl _)
  rwa [List.take_length] at this
end Go.Proofs.Ytmnglonjekegcaa.Vw
namespace Go.Proofs.Ytmnglonjekegcaa.Vw
open Go Go.RowKit Go.Maps Go.Proofs.Ytmnglonjekegcaa.Mk Go.Proofs.Ytmnglonjekegcaa.Rp Go.Proofs.YtmnglonjekegcaaW.PrintWords Go.Proofs.YtmnglonjekegcaaW.PrintLast Go.Proofs.YtmnglonjekegcaaW.PrintMore Go.Proofs.Ytmnglonjekegcaa.Rw Go.Proofs.Ytmnglonjekegcaa.Ow Go.Proofs.Ytmnglonjekegcaa.Mono
set_option linter.unusedVariables false
set_option linter.unusedSimpArgs false
set_option maxRecDepth 100000
theorem TIN : TInfo 39 3 1 8 := tinfo_of Try.underlying39 info3 rfl (by omega)
def updI {α : Type} (V : Nat → α) (k : Nat) (v : α) : Nat → α := fun j => if j = k then v else V j
structure WI (w : World) (base : Nat) (V : Nat → Value) (F : Nat → List Int) : Prop where
  own : ∀ j, w.ownsRow base 3 1 (V j) (F j).length (cellsI (F j))
  dis : ∀ i j, i ≠ j → Dis (V i) (V j)
  bb : base ≤ w.heap.size
theorem WI.start {w : World} {base : Nat} (h : base ≤ w.heap.size) : WI w base (fun _ => .slice none 0 0) (fun _ => []) :=
  ⟨fun _ => World.ownsRow_nil _ _ _ _, fun _ _ _ => Dis.none_l rfl, h⟩
theorem WI.kept {w w' : World} {base : Nat} {V : Nat → Value} {F : Nat → List Int} (h : WI w base V F) (hs : w.heap.size ≤ w'.heap.size) (hk : ∀ (k : Nat) (cs : Array Value), w.heap[k]? = some (.cells cs 3 (0, 0)) → w'.heap[k]? = some (.cells cs 3 (0, 0))) : WI w' base V F :=
  ⟨fun j => own_kept (h.own j) fun k e => by
    obtain ⟨cur, hc⟩ := own_block (h.own j) e
    rw [hk _ _ hc, hc], h.dis, Nat.le_trans h.bb hs⟩
theorem WI.below {w w' : World} {base : Nat} {V : Nat → Value} {F : Nat → List Int} (h : WI w base V F) (hb : Below w.heap.size w w') : WI w' base V F :=
  h.kept hb.size fun k cs hc => blk_below hc hb
/-- A cell of a block of another type stored. -/
theorem WI.set {w : World} {base : Nat} {V : Nat → Value} {F : Nat → List Int} (h : WI w base V F) {g : Nat} {cs : Array Value} {T : TypeId} (hg : w.heap[g]? = some (.cells cs T (0, 0))) (hT : 3 ≠ T) (i : Nat) (v : Value) : WI (w.setCell ⟨g, i, none⟩ v) base V F :=
  h.kept ((Below.refl 0 w).setCell (p := ⟨g, i, none⟩) (Nat.zero_le _) v).size fun k cs hc => (Below.heap_setCell _ _ _ k (blk_types hc hg hT)).trans hc
/-- A row becomes another one, apart from all. -/
theorem WI.swap {w : World} {base : Nat} {V : Nat → Value} {F : Nat → List Int} (h : WI w base V F) (k : Nat) {v : Value} {f : List Int} (ho : w.ownsRow base 3 1 v f.length (cellsI f)) (hd : ∀ j, j ≠ k → Dis v (V j)) : WI w base (updI V k v) (updI F k f) := by
  refine ⟨fun j => ?_, fun i j hij => ?_, h.bb⟩
  · unfold updI
    by_cases hj : j = k
    · rw [if_pos hj, if_pos hj]; exact ho
    · rw [if_neg hj, if_neg hj]; exact h.own j
  · unfold updI
    split
    · split
      · omega
      · rename_i hj; exact hd j hj
    · split
      · rename_i hi _; exact (hd i hi).symm
      · exact h.dis i j hij
theorem WI.lower {w : World} {base b : Nat} {V : Nat → Value} {F : Nat → List Int} (h : WI w base V F) (hb : b ≤ base) : WI w b V F := by
  refine ⟨fun j => ?_, h.dis, Nat.le_trans hb h.bb⟩
  obtain ⟨h1, h2⟩ := h.own j
  refine ⟨h1, ?_⟩
  rcases h2 with h2 | ⟨g, cap, cur, e, hg, r⟩
  · exact .inl h2
  · exact .inr ⟨g, cap, cur, e, Nat.le_trans hb hg, r⟩
theorem WI.nil {w : World} {base : Nat} {V : Nat → Value} {F : Nat → List Int} (h : WI w base V F) (k : Nat) : WI w base (updI V k (.slice none 0 0)) (updI F k []) :=
  h.swap k (World.ownsRow_nil _ _ _ _) fun _ _ => Dis.none_l rfl
/-- append(row k, x) -/
theorem WI.app {w : World} {base : Nat} {V : Nat → Value} {F : Nat → List Int} (h : WI w base V F) (k : Nat) (x : Int) (gl : Nat) (hgl : w.heap[gl]? = some (.cells #[.int .i64 x] 3 (0, 0))) (hn : (F k).length ≤ 1000000) (ty : TypeId) (hty : ty = 39) :
    ∃ v' w', (Builtin.append_ #[39, 39] ty #[V k, .slice (some ⟨gl, 0, none⟩) 1 1]).run Try.prog w = .ok v' w' ∧ WI w' base (updI V k v') (updI F k (F k ++ [x])) ∧ w.grownBy w' (V k).ownBlock ∧ (∀ (b : Nat) (wx : World), b ≤ base → Below b wx w → Below b wx w') ∧ (∀ (j : Nat) (cs : Array Value) (T : TypeId), 3 ≠ T → w.heap[j]? = some (.cells cs T (0, 0)) → w'.heap[j]? = some (.cells cs T (0, 0))) ∧ ∃ A c', v' = .slice A ((F k).length + 1) c' := by
  obtain ⟨v', w', hr, ho, hg, hat, hA⟩ := app_one TIN ty hty w base (F k).length (V k) (cellsI (F k)) (h.own k) gl 1 [.int .i64 x] hgl rfl (by simp [Value.oneCell']) hn (by decide) h.bb
  have hlt : ∀ j b, (V j).ownBlock = some b → b < w.heap.size := fun j b hb => (Ow.own_lt (h.own j) b hb).2
  have h1 : ∀ j, j ≠ k → w'.ownsRow base 3 1 (V j) (F j).length (cellsI (F j)) := fun j hj => own_kept (h.own j) fun i hi => hg.block i (hlt j i hi.symm) fun hh => h.dis j k hj i hi.symm hh.symm
  refine ⟨v', w', hr, ⟨fun j => ?_, fun i j hij => ?_, Nat.le_trans h.bb hg.size⟩, hg, fun b wx hb hx => hx.grown hg (Nat.le_trans hb h.bb) fun j hj => Nat.le_trans hb (Ow.own_lt (h.own k) j hj).1, fun j cs T hT hj => blk_grown hj hg fun hh => ?_, hA⟩
  · unfold updI
    by_cases hj : j = k
    · rw [if_pos hj, if_pos hj, List.length_append]
      have e : cellsI (F k ++ [x]) = cellsI (F k) ++ [.int .i64 x] := by simp [cellsI]
      rw [e]
      exact ho
    · rw [if_neg hj, if_neg hj]; exact h1 j hj
  · unfold updI
    split
    · split
      · omega
      · rename_i hi hj; exact (h.dis k j (fun e => hj e.symm)).hat hat (hlt j)
    · split
      · rename_i hi hj; exact ((h.dis k i (fun e => hi e.symm)).hat hat (hlt i)).symm
      · exact h.dis i j hij
  · obtain ⟨cur, hc⟩ := own_block (h.own k) hh
    exact blk_types hc hj hT rfl
/-- A row that lies in new blocks takes the place of another. -/
theorem WI.fresh {w w' : World} {base : Nat} {V : Nat → Value} {F : Nat → List Int} (h : WI w base V F) (hb : Below w.heap.size w w') (k : Nat) {v : Value} {f : List Int} (ho : w'.ownsRow w.heap.size 3 1 v f.length (cellsI f)) : WI w' base (updI V k v) (updI F k f) := by
  refine (h.below hb).swap k ?_ fun j hj b h1 h2 => ?_
  · obtain ⟨h1, h2⟩ := ho
    refine ⟨h1, ?_⟩
    rcases h2 with h2 | ⟨g, cap, cur, e, hg, r⟩
    · exact .inl h2
    · exact .inr ⟨g, cap, cur, e, Nat.le_trans h.bb hg, r⟩
  · have := (Ow.own_lt ho b h1).1
    have := (Ow.own_lt (h.own j) b h2).2
    omega
end Go.Proofs.Ytmnglonjekegcaa.Vw
namespace Go.Proofs.Ytmnglonjekegcaa.Vw
open Go Go.RowKit Go.Maps Go.Proofs.Ytmnglonjekegcaa.Mk Go.Proofs.Ytmnglonjekegcaa.Rp Go.Proofs.YtmnglonjekegcaaW.PrintWords Go.Proofs.YtmnglonjekegcaaW.PrintLast Go.Proofs.YtmnglonjekegcaaW.PrintMore Go.Proofs.Ytmnglonjekegcaa.Rw Go.Proofs.Ytmnglonjekegcaa.Ow Go.Proofs.Ytmnglonjekegcaa.Mono
set_option linter.unusedVariables false
set_option linter.unusedSimpArgs false
set_option maxRecDepth 100000
def ofF (o : OS) : Nat → List Int := fun j => if j = 0 then o.s.t.f4 else if j = 1 then opens o.s else if j = 2 then o.d else if j = 3 then o.a else []
def ocells (V : Nat → Value) (A3 : Option Addr) (c3 : Nat) (o : OS) : Array Value := #[.int .i64 o.s.t.f0, .int .i64 o.s.t.f1, .int .i64 o.s.t.f2, .slice A3 o.s.t.f3.length c3, V 0, .int .i64 o.s.t.f5, V 1, V 2, V 3]
structure OfI (w0 w wr : World) (g0 gR go : Nat) (V : Nat → Value) (A3 : Option Addr) (c3 : Nat) (o : OS) : Prop where
  wi : WI wr g0 V (ofF o)
  blk : wr.heap[go]? = some (.cells (ocells V A3 c3 o) 70 (0, 0))
  res : wr.heap[gR]? = some (.cells #[.int .i64 0, .int .i64 0, .int .i64 0, .slice none 0 0, .slice none 0 0, .int .i64 0, .slice none 0 0, .slice none 0 0, .slice none 0 0] 70 (0, 0))
  c3 : o.s.t.f3.length ≤ c3 ∧ Kd.C (Kd.int .i64) w0 A3 o.s.t.f3.length o.s.t.f3
  bel : Below w.heap.size w wr
  ne : gR ≠ go
  hR : w.heap.size ≤ gR
  hO : w.heap.size ≤ go
  hb : w.heap.size ≤ g0
section
variable {w0 w wr : World} {g0 gR go : Nat} {V : Nat → Value} {A3 : Option Addr} {c3 : Nat} {o : OS}
theorem OfI.below (h : OfI w0 w wr g0 gR go V A3 c3 o) {w' : World} (hb : Below wr.heap.size wr w') : OfI w0 w w' g0 gR go V A3 c3 o :=
  ⟨h.wi.below hb, blk_below h.blk hb, blk_below h.res hb, h.c3, below_on h.bel h.bel.size hb, h.ne, h.hR, h.hO, h.hb⟩
/-- A cell of the block stored. -/
theorem OfI.set (h : OfI w0 w wr g0 gR go V A3 c3 o) (i : Nat) (v : Value) {V' : Nat → Value} {A3' : Option Addr} {c3' : Nat} {o' : OS} (hc : (ocells V A3 c3 o).setIfInBounds i v = ocells V' A3' c3' o') (hw : WI wr g0 V' (ofF o')) (h3 : o'.s.t.f3.length ≤ c3' ∧ Kd.C (Kd.int .i64) w0 A3' o'.s.t.f3.length o'.s.t.f3) : OfI w0 w (wr.setCell ⟨go, i, none⟩ v) g0 gR go V' A3' c3' o' :=
  ⟨hw.set h.blk (by decide) i v, blk_put h.blk i v hc, (Below.heap_setCell _ _ _ gR h.ne).trans h.res, h3, h.bel.setCell (p := ⟨go, i, none⟩) h.hO v, h.ne, h.hR, h.hO, h.hb⟩
/-- append(row k, x), stored. -/
theorem OfI.app (h : OfI w0 w wr g0 gR go V A3 c3 o) (k : Nat) (hk : k = 1 ∨ k = 2 ∨ k = 3) (x : Int) (gl : Nat) (hgl : wr.heap[gl]? = some (.cells #[.int .i64 x] 3 (0, 0))) (hn : (ofF o k).length ≤ 1000000) {o' : OS} (hF : updI (ofF o) k (ofF o k ++ [x]) = ofF o') (ht : o'.s.t = o.s.t) (ty : TypeId) (hty : ty = 39) :
    ∃ v' w', (Builtin.append_ #[39, 39] ty #[V k, .slice (some ⟨gl, 0, none⟩) 1 1]).run Try.prog wr = .ok v' w' ∧ w'.heap[go]? = some (.cells (ocells V A3 c3 o) 70 (0, 0)) ∧ OfI w0 w (w'.setCell ⟨go, k + 5, none⟩ v') g0 gR go (updI V k v') A3 c3 o' ∧ wr.heap.size ≤ w'.heap.size ∧ ∃ A c', v' = .slice A ((ofF o k).length + 1) c' := by
  obtain ⟨v', w', hr, hw, hg, hbel, hkp, hA⟩ := h.wi.app k x gl hgl hn ty hty
  rw [hF] at hw
  have hblk := hkp _ _ _ (by decide) h.blk
  have hB := hbel _ w h.hb h.bel
  refine ⟨v', w', hr, hblk, ⟨hw.set hblk (by decide) _ _, ?_, (Below.heap_setCell _ _ _ gR h.ne).trans (hkp _ _ _ (by decide) h.res), by rw [ht]; exact h.c3, hB.setCell (p := ⟨go, k + 5, none⟩) h.hO v', h.ne, h.hR, h.hO, h.hb⟩, hg.size, hA⟩
  refine blk_put hblk (k + 5) v' ?_
  unfold ocells
  rw [ht]
  rcases hk with rfl | rfl | rfl <;> rfl
theorem updF (o o' : OS) (k : Nat) (f : List Int) (hk : ofF o' k = f) (h : ∀ j, j ≠ k → ofF o' j = ofF o j) : updI (ofF o) k f = ofF o' := by
  funext j
  unfold updI
  by_cases hj : j = k
  · rw [if_pos hj, hj, hk]
  · rw [if_neg hj, h j hj]
end
end Go.Proofs.Ytmnglonjekegcaa.Vw
