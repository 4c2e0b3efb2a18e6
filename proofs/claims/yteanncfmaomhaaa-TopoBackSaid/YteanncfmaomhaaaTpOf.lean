/- (c05) topo.Of, in the form of the printer's own contracts. -/
import Derived.Test.YteanncfmaomhaaaExOf
import Derived.Test.YteanncfmaomhaaaTpP
import Derived.Test.YteanncfmaomhaaaRcBs
import Derived.Test.YteanncfmaomhaaaExByP
import Derived.Test.YteanncfmaomhaaaTpMo
namespace Go.Proofs.Yteanncfmaomhaaa.Ex
open Go Go.RowKit Go.Proofs.Yteanncfmaomhaaa.Pk Go.Proofs.YteanncfmaomhaaaW.PrintWords
set_option linter.unusedVariables false
set_option linter.unusedSimpArgs false
abbrev GotV := Int ⊕ (Vx × List Int)
def capV (n : Int) : Int := if 1000 < n then 1000 else n
def rdV5 (k : Int) (l : List Int) (n : Int) (x r : List Int) : GotV :=
  if 0 < x.length then (if (ofE x).2.2.2 ≠ 0 then .inl (ofE x).2.2.2 else .inr (⟨k, l, ⟨(ofE x).1, (ofE x).2.1, (ofE x).2.2.1⟩, n⟩, r)) else .inr (⟨k, l, ⟨0, 0, []⟩, n⟩, r)
def rdV4 (k : Int) (l : List Int) (n : Int) (xs : List Int) : GotV := if (rdB xs).2.1 ≠ 0 then .inl (rdB xs).2.1 else rdV5 k l n (rdB xs).1 (rdB xs).2.2
def rdV3 (k : Int) (l xs : List Int) : GotV := if (rdU xs).2.1 ≠ 0 then .inl (rdU xs).2.1 else rdV4 k l (sgn (rdU xs).1) (rdU xs).2.2
def rdV2 (k : Int) (xs : List Int) : GotV := if (rdL 2 xs).2.1 ≠ 0 then .inl (rdL 2 xs).2.1 else rdV3 k (rdL 2 xs).1 (rdL 2 xs).2.2
def rdV (xs : List Int) : GotV := if (rdU xs).2.1 ≠ 0 then .inl (rdU xs).2.1 else rdV2 (capV (rdU xs).1) (rdU xs).2.2
def rdVs : Nat → List Int → Int ⊕ (List Vx × List Int)
  | 0, xs => .inr ([], xs)
  | n + 1, xs => match rdV xs with
    | .inl e => .inl e
    | .inr (v, r) => match rdVs n r with
      | .inl e => .inl e
      | .inr (vs, r2) => .inr (v :: vs, r2)
def aheadV (acc : List Vx) : Int ⊕ (List Vx × List Int) → Int ⊕ (List Vx × List Int)
  | .inl e => .inl e
  | .inr (vs, r) => .inr (acc ++ vs, r)
theorem aheadV_nil (x : Int ⊕ (List Vx × List Int)) : aheadV [] x = x := by
  cases x <;> rfl
theorem rdVs_bad {m : Nat} {xs : List Int} {e : Int} {acc : List Vx} (h : rdV xs = .inl e) : aheadV acc (rdVs (m + 1) xs) = .inl e := by
  rw [rdVs, h]
  rfl
theorem rdVs_good {m : Nat} {xs r : List Int} {v : Vx} {acc : List Vx} (h : rdV xs = .inr (v, r)) : aheadV acc (rdVs (m + 1) xs) = aheadV (acc ++ [v]) (rdVs m r) := by
  rw [rdVs, h]
  simp only
  cases rdVs m r with
  | inl e => rfl
  | inr q => simp [aheadV]
def ofT3 (p : Int) : Int ⊕ (List Vx × List Int) → List Vx × Int × Int
  | .inl e => ([], 0, e)
  | .inr (vs, r) => if 0 < r.length then ([], 0, 5) else if (checkOf vs p).2 ≠ 0 then ([], 0, (checkOf vs p).2) else (vs, p, 0)
def ofT2 (p : Int) (xs : List Int) : List Vx × Int × Int :=
  if (rdU xs).2.1 ≠ 0 then ([], 0, (rdU xs).2.1) else if 24 < (rdU xs).1 then ([], 0, 2) else ofT3 p (rdVs (rdU xs).1.toNat (rdU xs).2.2)
def ofT (xs : List Int) : List Vx × Int × Int := if (rdU xs).2.1 ≠ 0 then ([], 0, (rdU xs).2.1) else ofT2 (capV (rdU xs).1) (rdU xs).2.2
theorem rdV2_len (k : Int) (xs : List Int) : ∀ v r, rdV2 k xs = .inr (v, r) → r.length ≤ xs.length := by
  intro v r h
  unfold rdV2 rdV3 rdV4 rdV5 at h
  have a1 := rdL_len 2 xs
  have a2 := rdU_len (rdL 2 xs).2.2
  have a3 := rdB_len (rdU (rdL 2 xs).2.2).2.2
  split at h
  · cases h
  split at h
  · cases h
  split at h
  · cases h
  split at h
  · split at h
    · cases h
    · injection h with h; injection h with h1 h2; subst h2; omega
  · injection h with h; injection h with h1 h2; subst h2; omega
theorem rdV_len {xs r : List Int} {v : Vx} (h : rdV xs = .inr (v, r)) : r.length ≤ xs.length := by
  unfold rdV at h
  have := rdU_len xs
  split at h
  · cases h
  · have := rdV2_len _ _ _ _ h
    omega
end Go.Proofs.Yteanncfmaomhaaa.Ex
namespace Go.Proofs.Yteanncfmaomhaaa.Ex
open Go Go.RowKit Go.Proofs.Yteanncfmaomhaaa.Pk Go.Proofs.YteanncfmaomhaaaW.PrintWords Go.Proofs.YteanncfmaomhaaaW.PrintLast Go.Proofs.YteanncfmaomhaaaW.PrintMore
set_option linter.unusedVariables false
set_option linter.unusedSimpArgs false
/-- A row lives on while a block below it is turned. -/
theorem R_keep {α : Type} {d : Kd α} {e lo j : Nat} {w w1 : World} {ok : Nat → Prop} {v : Value} {ys : List α} (h : d.R e w lo ok v ys) (hg : w.grownBy w1 (some j)) (hj : j < lo) : d.R e w1 lo (fun _ => True) v ys :=
  Kd.R_mono (Kd.R_grown (Kd.R_bound h) hg (fun i hi he => by injection he with he; have := hi.2.1; omega)) (fun _ _ => trivial)
/-- Within a call: v's variable, the reader. -/
structure RS (w w' : World) (b base gv : Nat) (cs : Array Value) (r : List Int) : Prop where
  g : w.grownBy w' (some b)
  gl : w.heap.size ≤ gv
  bl : b < w.heap.size
  cell : w'.heap[gv]? = some (.cells cs 40 (0, 0))
  rdr : Rdr w' base b r
section
variable {w w1 w2 : World} {b base gv : Nat} {cs cs' : Array Value} {r r2 : List Int}
theorem RS.sz (h : RS w w1 b base gv cs r) : w.heap.size ≤ w1.heap.size ∧ gv < w1.heap.size ∧ b < gv := by
  have := h.gl
  have := h.bl
  exact ⟨h.g.size, (Array.getElem?_eq_some_iff.1 h.cell).1, by omega⟩
theorem RS.below (h : RS w w1 b base gv cs r) (hb : Below w1.heap.size w1 w2) : RS w w2 b base gv cs r :=
  ⟨⟨hb.os.trans h.g.os, hb.tape.trans h.g.tape, hb.output.trans h.g.output, Nat.le_trans h.g.size hb.size, fun k hk hne => (hb.block k (Nat.lt_of_lt_of_le hk h.g.size)).trans (h.g.block k hk hne)⟩, h.gl, h.bl, blk_below h.cell hb, h.rdr.below hb⟩
theorem RS.read (h : RS w w1 b base gv cs r) (hr : Rdr w2 base b r2) (hg : w1.grownBy w2 (some b)) : RS w w2 b base gv cs r2 :=
  ⟨grown_trans h.g hg, h.gl, h.bl, blk_grown h.cell hg (by have := h.sz; intro e; injection e with e; omega), hr⟩
theorem RS.put (h : RS w w1 b base gv cs r) (j : Nat) (u : Value) (e : cs.setIfInBounds j u = cs') : RS w (w1.setCell ⟨gv, j, none⟩ u) b base gv cs' r := by
  have hset := grown_set w1 gv j u
  refine ⟨⟨h.g.os, h.g.tape, h.g.output, by simpa using h.g.size, fun k hk hne => ?_⟩, h.gl, h.bl, blk_put h.cell j u e, rdr_turn h.rdr (by have := h.sz; omega) h.cell (by decide) hset⟩
  exact (hset.block k (Nat.lt_of_lt_of_le hk h.g.size) (by have := h.gl; intro e; injection e with e; omega)).trans (h.g.block k hk hne)
end
theorem rdB_sub {xs : List Int} (hb : Byt xs) : Byt (rdB xs).1 ∧ (rdB xs).1.length ≤ xs.length := by
  unfold rdB
  have h1 := rdU_byt hb
  have h2 := rdU_len xs
  split
  · exact ⟨fun x hx => (List.not_mem_nil hx).elim, by simp⟩
  · split
    · exact ⟨fun x hx => (List.not_mem_nil hx).elim, by simp⟩
    · exact ⟨fun x hx => h1 x (List.mem_of_mem_take hx), by simp only [List.length_take]; omega⟩
def RdPost (w : World) (b base : Nat) (R : GotV) (e : Ending) (w' : World) : Prop :=
  w.grownBy w' (some b) ∧ match R with
    | .inl er => er ≠ 0 ∧ ∃ (k0 : Int) (A1 : Option Addr) (n1 c1 : Nat) (k2 k3 : Int) (A4 : Option Addr) (n4 c4 : Nat) (k5 : Int), e = .returned (.tuple #[.agg #[.int .i64 k0, .slice A1 n1 c1, .int .i64 k2, .int .i64 k3, .slice A4 n4 c4, .int .i64 k5], .int .i64 er])
    | .inr (v, r) => ∃ v1 v4 : Value, e = .returned (.tuple #[.agg #[.int .i64 v.f0, v1, .int .i64 v.f2.f0, .int .i64 v.f2.f1, v4, .int .i64 v.f3], .int .i64 0]) ∧ (Kd.int .i64).R 3 w' w.heap.size (fun _ => True) v1 v.f1 ∧ Kd.R k38 38 w' w.heap.size (fun _ => True) v4 v.f2.f2 ∧ Rdr w' base b r
set_option maxHeartbeats 4000000 in
set_option maxRecDepth 1000000 in
theorem read_ok (base b : Nat) (xs : List Int) (w : World) (hr : Rdr w base b xs) (hl : xs.length < 140737488355328) :
    Calls Try.prog 30 #[.pointer (some ⟨b, 0, none⟩)] w (RdPost w b base (rdV xs)) := by
  have HL := Aside0.mk hl
  have HBW := Aside0.mk hr.lt
  have HR := Aside0.mk hr
  clear hr hl
  go_enter Try.func30, Try.ntmps30
  go_upto_region 1 with fail
  have HS : Aside0 (RS w (w.alloc (.cells #[.int .i64 0, .slice none 0 0, .int .i64 0, .int .i64 0, .slice none 0 0, .int .i64 0] 40 (0, 0))) b base w.heap.size #[.int .i64 0, .slice none 0 0, .int .i64 0, .int .i64 0, .slice none 0 0, .int .i64 0] xs) := ⟨by
    have hb := below_alloc (Below.refl w.heap.size w) (.cells #[.int .i64 0, .slice none 0 0, .int .i64 0, .int .i64 0, .slice none 0 0, .int .i64 0] 40 (0, 0))
    exact ⟨grown_of_below hb _, Nat.le_refl _, HBW.out, heap_alloc_new w _, HR.out.below hb⟩⟩
  obtain ⟨gv, HGV⟩ : ∃ g, Aside0 (w.heap.size = g) := ⟨_, ⟨rfl⟩⟩
  generalize w.alloc (.cells #[.int .i64 0, .slice none 0 0, .int .i64 0, .int .i64 0, .slice none 0 0, .int .i64 0] 40 (0, 0)) = w1 at HS ⊢
  have HS1 := HS
  rw [HGV.out] at HS ⊢
  replace HS : Aside0 (RS w w1 b base gv #[.int .i64 0, .slice none 0 0, .int .i64 0, .int .i64 0, .slice none 0 0, .int .i64 0] xs) := ⟨by have h := HS1.out; rwa [HGV.out] at h⟩
  clear HS1 HR
  go_wp2_with fail
  refine (uint_some b xs base w1 HS.out.rdr).mono ?_
  rintro e_ w2 ⟨he1, h1, h2⟩
  obtain ⟨kd, HKD⟩ : ∃ n, Aside0 ((rdU xs).1 = n) := ⟨_, ⟨rfl⟩⟩
  obtain ⟨er, HER⟩ : ∃ n, Aside0 ((rdU xs).2.1 = n) := ⟨_, ⟨rfl⟩⟩
  obtain ⟨r1, HR1⟩ : ∃ n, Aside0 ((rdU xs).2.2 = n) := ⟨_, ⟨rfl⟩⟩
  have HRG := Aside0.mk (rdU_range HS.out.rdr.byt)
  rw [HKD.out, HER.out] at he1
  rw [HR1.out] at h1
  rw [HKD.out] at HRG
  subst he1
  replace HS := Aside0.mk (HS.out.read h1 h2)
  clear h1 h2 w1
  by_cases her : er = 0
  · have herb : (er != 0) = false := by simpa using her
    have herb2 : (er == 0) = true := by simpa using her
    obtain ⟨m, hm⟩ : ∃ m, (if 1000 < kd then (1000 : Int) else kd) = m := ⟨_, rfl⟩
    have HM : Aside0 (capV kd = m) := ⟨hm⟩
    have hw64 : wrap64 m = m := by have := HRG.out; unfold wrap64; split at hm <;> omega
    have HG1 : Aside0 (rdV xs = rdV2 m r1) := ⟨by unfold rdV; rw [HER.out, HKD.out, HR1.out, if_neg (by simpa using her), HM.out]⟩
    have HL1 : Aside0 (r1.length ≤ xs.length) := ⟨by have := rdU_len xs; rw [HR1.out] at this; exact this⟩
    clear her
    have c0_ := (blk_cell HS.out.cell 0).trans (rfl : _ = some ((.int .i64 0) : Value))
    have c1_ := (blk_cell HS.out.cell 1).trans (rfl : _ = some ((.slice none 0 0) : Value))
    have c2_ := (blk_cell HS.out.cell 2).trans (rfl : _ = some ((.int .i64 0) : Value))
    have c3_ := (blk_cell HS.out.cell 3).trans (rfl : _ = some ((.int .i64 0) : Value))
    have c4_ := (blk_cell HS.out.cell 4).trans (rfl : _ = some ((.slice none 0 0) : Value))
    have c5_ := (blk_cell HS.out.cell 5).trans (rfl : _ = some ((.int .i64 0) : Value))
    have cf0_ := blk_frozen HS.out.cell 0
    have cf1_ := blk_frozen HS.out.cell 1
    have cf2_ := blk_frozen HS.out.cell 2
    have cf3_ := blk_frozen HS.out.cell 3
    have cf4_ := blk_frozen HS.out.cell 4
    have cf5_ := blk_frozen HS.out.cell 5
    go_wp2_with fail
    replace HS := Aside0.mk (HS.out.put 0 (.int .i64 m) (cs' := #[.int .i64 m, .slice none 0 0, .int .i64 0, .int .i64 0, .slice none 0 0, .int .i64 0]) rfl)
    clear c0_ cf0_ c1_ cf1_ c2_ cf2_ c3_ cf3_ c4_ cf4_ c5_ cf5_
    clear hm hw64 herb herb2
    generalize w2.setCell ⟨gv, 0, none⟩ (.int .i64 m) = w3 at HS ⊢
    refine (ints_some b 2 r1 base w3 HS.out.rdr (by omega) (by omega)).mono ?_
    rintro e_ w4 ⟨v1, he1, ho, h1, h2⟩
    obtain ⟨fr, HFR⟩ : ∃ n, Aside0 ((rdL 2 r1).1 = n) := ⟨_, ⟨rfl⟩⟩
    obtain ⟨er2, HER2⟩ : ∃ n, Aside0 ((rdL 2 r1).2.1 = n) := ⟨_, ⟨rfl⟩⟩
    obtain ⟨r2, HR2⟩ : ∃ n, Aside0 ((rdL 2 r1).2.2 = n) := ⟨_, ⟨rfl⟩⟩
    rw [HER2.out] at he1
    rw [HR2.out] at h1
    rw [HFR.out] at ho
    obtain ⟨A1, c1, rfl⟩ := Kd.R_slice ho
    subst he1
    have HO1 := Aside0.mk ho
    have HS3 := HS
    replace HS := Aside0.mk (HS.out.read h1 h2)
    clear h1 h2 ho
    obtain ⟨lo, HLO⟩ : ∃ lo, Aside0 (w3.heap.size = lo) := ⟨_, ⟨rfl⟩⟩
    rw [HLO.out] at HO1
    replace HLO : Aside0 (gv < lo ∧ b < lo ∧ w.heap.size ≤ lo) := ⟨by have := HS3.out.sz; have := HLO.out; omega⟩
    clear HS3 w3
    have c0_ := (blk_cell HS.out.cell 0).trans (rfl : _ = some ((.int .i64 m) : Value))
    have c1_ := (blk_cell HS.out.cell 1).trans (rfl : _ = some ((.slice none 0 0) : Value))
    have c2_ := (blk_cell HS.out.cell 2).trans (rfl : _ = some ((.int .i64 0) : Value))
    have c3_ := (blk_cell HS.out.cell 3).trans (rfl : _ = some ((.int .i64 0) : Value))
    have c4_ := (blk_cell HS.out.cell 4).trans (rfl : _ = some ((.slice none 0 0) : Value))
    have c5_ := (blk_cell HS.out.cell 5).trans (rfl : _ = some ((.int .i64 0) : Value))
    have cf0_ := blk_frozen HS.out.cell 0
    have cf1_ := blk_frozen HS.out.cell 1
    have cf2_ := blk_frozen HS.out.cell 2
    have cf3_ := blk_frozen HS.out.cell 3
    have cf4_ := blk_frozen HS.out.cell 4
    have cf5_ := blk_frozen HS.out.cell 5
    by_cases her : er2 = 0
    · have herb : (er2 != 0) = false := by simpa using her
      have herb2 : (er2 == 0) = true := by simpa using her
      have HG2 : Aside0 (rdV xs = rdV3 m fr r2) := ⟨by rw [HG1.out]; unfold rdV2; rw [HER2.out, HFR.out, HR2.out, if_neg (by simpa using her)]⟩
      have HL2 : Aside0 (r2.length ≤ xs.length) := ⟨by have := rdL_len 2 r1; rw [HR2.out] at this; exact Nat.le_trans this HL1.out⟩
      clear her HER2 HFR HR2 HG1 HL1
      go_wp2_with fail
      replace HO1 := Aside0.mk (R_keep HO1.out (grown_set w4 gv 1 (.slice A1 fr.length c1)) HLO.out.1)
      replace HS := Aside0.mk (HS.out.put 1 (.slice A1 fr.length c1) (cs' := #[.int .i64 m, .slice A1 fr.length c1, .int .i64 0, .int .i64 0, .slice none 0 0, .int .i64 0]) rfl)
      clear c0_ cf0_ c1_ cf1_ c2_ cf2_ c3_ cf3_ c4_ cf4_ c5_ cf5_
      clear herb herb2
      generalize w4.setCell ⟨gv, 1, none⟩ (.slice A1 fr.length c1) = w5 at HS HO1 ⊢
      refine (int_some b r2 base w5 HS.out.rdr).mono ?_
      rintro e_ w6 ⟨he1, h1, h2⟩
      obtain ⟨nn, HNN⟩ : ∃ n, Aside0 (sgn (rdU r2).1 = n) := ⟨_, ⟨rfl⟩⟩
      obtain ⟨er3, HER3⟩ : ∃ n, Aside0 ((rdU r2).2.1 = n) := ⟨_, ⟨rfl⟩⟩
      obtain ⟨r3, HR3⟩ : ∃ n, Aside0 ((rdU r2).2.2 = n) := ⟨_, ⟨rfl⟩⟩
      rw [HNN.out, HER3.out] at he1
      rw [HR3.out] at h1
      subst he1
      replace HO1 := Aside0.mk (R_keep HO1.out h2 HLO.out.2.1)
      replace HS := Aside0.mk (HS.out.read h1 h2)
      clear h1 h2 w5
      have c0_ := (blk_cell HS.out.cell 0).trans (rfl : _ = some ((.int .i64 m) : Value))
      have c1_ := (blk_cell HS.out.cell 1).trans (rfl : _ = some ((.slice A1 fr.length c1) : Value))
      have c2_ := (blk_cell HS.out.cell 2).trans (rfl : _ = some ((.int .i64 0) : Value))
      have c3_ := (blk_cell HS.out.cell 3).trans (rfl : _ = some ((.int .i64 0) : Value))
      have c4_ := (blk_cell HS.out.cell 4).trans (rfl : _ = some ((.slice none 0 0) : Value))
      have c5_ := (blk_cell HS.out.cell 5).trans (rfl : _ = some ((.int .i64 0) : Value))
      have cf0_ := blk_frozen HS.out.cell 0
      have cf1_ := blk_frozen HS.out.cell 1
      have cf2_ := blk_frozen HS.out.cell 2
      have cf3_ := blk_frozen HS.out.cell 3
      have cf4_ := blk_frozen HS.out.cell 4
      have cf5_ := blk_frozen HS.out.cell 5
      by_cases her : er3 = 0
      · have herb : (er3 != 0) = false := by simpa using her
        have herb2 : (er3 == 0) = true := by simpa using her
        have HG3 : Aside0 (rdV xs = rdV4 m fr nn r3) := ⟨by rw [HG2.out]; unfold rdV3; rw [HER3.out, HNN.out, HR3.out, if_neg (by simpa using her)]⟩
        have HL3 : Aside0 (r3.length ≤ xs.length) := ⟨by have := rdU_len r2; rw [HR3.out] at this; exact Nat.le_trans this HL2.out⟩
        clear her HER3 HNN HR3 HG2 HL2
        go_wp2_with fail
        replace HO1 := Aside0.mk (R_keep HO1.out (grown_set w6 gv 5 (.int .i64 nn)) HLO.out.1)
        replace HS := Aside0.mk (HS.out.put 5 (.int .i64 nn) (cs' := #[.int .i64 m, .slice A1 fr.length c1, .int .i64 0, .int .i64 0, .slice none 0 0, .int .i64 nn]) rfl)
        clear c0_ cf0_ c1_ cf1_ c2_ cf2_ c3_ cf3_ c4_ cf4_ c5_ cf5_
        clear herb herb2
        generalize w6.setCell ⟨gv, 5, none⟩ (.int .i64 nn) = w7 at HS HO1 ⊢
        refine (bytes_some b r3 base w7 HS.out.rdr (by have := HL3.out; have := HL.out; omega)).mono ?_
        rintro e_ w8 ⟨v2, he1, ho, h1, h2⟩
        obtain ⟨ex, HEX⟩ : ∃ n, Aside0 ((rdB r3).1 = n) := ⟨_, ⟨rfl⟩⟩
        obtain ⟨er4, HER4⟩ : ∃ n, Aside0 ((rdB r3).2.1 = n) := ⟨_, ⟨rfl⟩⟩
        obtain ⟨r4, HR4⟩ : ∃ n, Aside0 ((rdB r3).2.2 = n) := ⟨_, ⟨rfl⟩⟩
        rw [HER4.out] at he1
        rw [HR4.out] at h1
        rw [HEX.out] at ho
        obtain ⟨A2, c2, rfl, hc2, hC2⟩ := Kd.R_reads ho
        subst he1
        have HXC : Aside0 (Kd.C (Kd.int .u8) w8 A2 ex.length ex ∧ ex.length ≤ c2) := ⟨hC2, hc2⟩
        have HXB : Aside0 (Byt ex ∧ ex.length ≤ r3.length) := ⟨by rw [← HEX.out]; exact rdB_sub HS.out.rdr.byt⟩
        replace HO1 := Aside0.mk (R_keep HO1.out h2 HLO.out.2.1)
        replace HS := Aside0.mk (HS.out.read h1 h2)
        clear h1 h2 ho hC2 hc2
        have c0_ := (blk_cell HS.out.cell 0).trans (rfl : _ = some ((.int .i64 m) : Value))
        have c1_ := (blk_cell HS.out.cell 1).trans (rfl : _ = some ((.slice A1 fr.length c1) : Value))
        have c2_ := (blk_cell HS.out.cell 2).trans (rfl : _ = some ((.int .i64 0) : Value))
        have c3_ := (blk_cell HS.out.cell 3).trans (rfl : _ = some ((.int .i64 0) : Value))
        have c4_ := (blk_cell HS.out.cell 4).trans (rfl : _ = some ((.slice none 0 0) : Value))
        have c5_ := (blk_cell HS.out.cell 5).trans (rfl : _ = some ((.int .i64 nn) : Value))
        have cf0_ := blk_frozen HS.out.cell 0
        have cf1_ := blk_frozen HS.out.cell 1
        have cf2_ := blk_frozen HS.out.cell 2
        have cf3_ := blk_frozen HS.out.cell 3
        have cf4_ := blk_frozen HS.out.cell 4
        have cf5_ := blk_frozen HS.out.cell 5
        by_cases her : er4 = 0
        · have herb : (er4 != 0) = false := by simpa using her
          have herb2 : (er4 == 0) = true := by simpa using her
          have HG4 : Aside0 (rdV xs = rdV5 m fr nn ex r4) := ⟨by rw [HG3.out]; unfold rdV4; rw [HER4.out, HEX.out, HR4.out, if_neg (by simpa using her)]⟩
          subst her
          by_cases hx : 0 < ex.length
          · have h1 : decide ((ex.length : Int) > 0) = true := decide_eq_true (by omega)
            have h1b : decide ((0 : Int) < (ex.length : Int)) = true := decide_eq_true (by omega)
            have h1c : decide (0 < ex.length) = true := decide_eq_true hx
            have HX := Aside0.mk hx
            clear hx
            have hby : bytB ex = true := bytB_mk HXB.out.1 (by have := HXB.out.2; have := HL3.out; have := HL.out; omega)
            obtain ⟨⟨q1, q2, q3, q4⟩, HQ⟩ : ∃ q, Aside0 (ofE ex = q) := ⟨_, ⟨rfl⟩⟩
            have HOC := Aside0.mk (expr_Of.calls A2 c2 ex q1 q2 q3 q4 w8 HXC.out.1 HXC.out.2 (by unfold expr_Of.f; rw [if_pos hby, HQ.out]))
            clear hby
            go_wp2_with fail
            refine HOC.out.mono ?_
            rintro e_ w9 ⟨v3, rfl, hv, hb⟩
            obtain ⟨A3, c3, rfl⟩ := Kd.R_slice hv
            have HV := Aside0.mk hv
            have HL8 : Aside0 (gv < w8.heap.size ∧ w.heap.size ≤ w8.heap.size) := ⟨⟨HS.out.sz.2.1, HS.out.sz.1⟩⟩
            clear c0_ cf0_ c1_ cf1_ c2_ cf2_ c3_ cf3_ c4_ cf4_ c5_ cf5_
            replace HS := Aside0.mk (HS.out.below hb)
            replace HO1 := Aside0.mk (Kd.R_below HO1.out hb)
            clear hv hb HOC
            have c0_ := (blk_cell HS.out.cell 0).trans (rfl : _ = some ((.int .i64 m) : Value))
            have c1_ := (blk_cell HS.out.cell 1).trans (rfl : _ = some ((.slice A1 fr.length c1) : Value))
            have c2_ := (blk_cell HS.out.cell 2).trans (rfl : _ = some ((.int .i64 0) : Value))
            have c3_ := (blk_cell HS.out.cell 3).trans (rfl : _ = some ((.int .i64 0) : Value))
            have c4_ := (blk_cell HS.out.cell 4).trans (rfl : _ = some ((.slice none 0 0) : Value))
            have c5_ := (blk_cell HS.out.cell 5).trans (rfl : _ = some ((.int .i64 nn) : Value))
            have cf0_ := blk_frozen HS.out.cell 0
            have cf1_ := blk_frozen HS.out.cell 1
            have cf2_ := blk_frozen HS.out.cell 2
            have cf3_ := blk_frozen HS.out.cell 3
            have cf4_ := blk_frozen HS.out.cell 4
            have cf5_ := blk_frozen HS.out.cell 5
            by_cases hq4 : q4 = 0
            · have HGE : Aside0 (rdV xs = .inr (⟨m, fr, ⟨q1, q2, q3⟩, nn⟩, r4)) := ⟨by rw [HG4.out]; unfold rdV5; rw [if_pos HX.out, HQ.out]; simp only; rw [if_neg (by simpa using hq4)]⟩
              subst hq4
              go_wp2_with fail
              have HZ := (((((((((HS.out.put 2 (.int .i64 q1) (cs' := #[.int .i64 m, .slice A1 fr.length c1, .int .i64 q1, .int .i64 0, .slice none 0 0, .int .i64 nn]) rfl).put 3 (.int .i64 q2) (cs' := #[.int .i64 m, .slice A1 fr.length c1, .int .i64 q1, .int .i64 q2, .slice none 0 0, .int .i64 nn]) rfl).put 4 (.slice A3 q3.length c3) (cs' := #[.int .i64 m, .slice A1 fr.length c1, .int .i64 q1, .int .i64 q2, .slice A3 q3.length c3, .int .i64 nn]) rfl).put 0 (.int .i64 m) (cs' := #[.int .i64 m, .slice A1 fr.length c1, .int .i64 q1, .int .i64 q2, .slice A3 q3.length c3, .int .i64 nn]) rfl).put 1 (.slice A1 fr.length c1) (cs' := #[.int .i64 m, .slice A1 fr.length c1, .int .i64 q1, .int .i64 q2, .slice A3 q3.length c3, .int .i64 nn]) rfl).put 2 (.int .i64 q1) (cs' := #[.int .i64 m, .slice A1 fr.length c1, .int .i64 q1, .int .i64 q2, .slice A3 q3.length c3, .int .i64 nn]) rfl).put 3 (.int .i64 q2) (cs' := #[.int .i64 m, .slice A1 fr.length c1, .int .i64 q1, .int .i64 q2, .slice A3 q3.length c3, .int .i64 nn]) rfl).put 4 (.slice A3 q3.length c3) (cs' := #[.int .i64 m, .slice A1 fr.length c1, .int .i64 q1, .int .i64 q2, .slice A3 q3.length c3, .int .i64 nn]) rfl).put 5 (.int .i64 nn) (cs' := #[.int .i64 m, .slice A1 fr.length c1, .int .i64 q1, .int .i64 q2, .slice A3 q3.length c3, .int .i64 nn]) rfl)
              have hgz : w9.grownBy (((((((((w9.setCell ⟨gv, 2, none⟩ (.int .i64 q1)).setCell ⟨gv, 3, none⟩ (.int .i64 q2)).setCell ⟨gv, 4, none⟩ (.slice A3 q3.length c3)).setCell ⟨gv, 0, none⟩ (.int .i64 m)).setCell ⟨gv, 1, none⟩ (.slice A1 fr.length c1)).setCell ⟨gv, 2, none⟩ (.int .i64 q1)).setCell ⟨gv, 3, none⟩ (.int .i64 q2)).setCell ⟨gv, 4, none⟩ (.slice A3 q3.length c3)).setCell ⟨gv, 5, none⟩ (.int .i64 nn)) (some gv) := (grown_trans (grown_trans (grown_trans (grown_trans (grown_trans (grown_trans (grown_trans (grown_trans (grown_set w9 gv 2 (.int .i64 q1)) (grown_set (w9.setCell ⟨gv, 2, none⟩ (.int .i64 q1)) gv 3 (.int .i64 q2))) (grown_set ((w9.setCell ⟨gv, 2, none⟩ (.int .i64 q1)).setCell ⟨gv, 3, none⟩ (.int .i64 q2)) gv 4 (.slice A3 q3.length c3))) (grown_set (((w9.setCell ⟨gv, 2, none⟩ (.int .i64 q1)).setCell ⟨gv, 3, none⟩ (.int .i64 q2)).setCell ⟨gv, 4, none⟩ (.slice A3 q3.length c3)) gv 0 (.int .i64 m))) (grown_set ((((w9.setCell ⟨gv, 2, none⟩ (.int .i64 q1)).setCell ⟨gv, 3, none⟩ (.int .i64 q2)).setCell ⟨gv, 4, none⟩ (.slice A3 q3.length c3)).setCell ⟨gv, 0, none⟩ (.int .i64 m)) gv 1 (.slice A1 fr.length c1))) (grown_set (((((w9.setCell ⟨gv, 2, none⟩ (.int .i64 q1)).setCell ⟨gv, 3, none⟩ (.int .i64 q2)).setCell ⟨gv, 4, none⟩ (.slice A3 q3.length c3)).setCell ⟨gv, 0, none⟩ (.int .i64 m)).setCell ⟨gv, 1, none⟩ (.slice A1 fr.length c1)) gv 2 (.int .i64 q1))) (grown_set ((((((w9.setCell ⟨gv, 2, none⟩ (.int .i64 q1)).setCell ⟨gv, 3, none⟩ (.int .i64 q2)).setCell ⟨gv, 4, none⟩ (.slice A3 q3.length c3)).setCell ⟨gv, 0, none⟩ (.int .i64 m)).setCell ⟨gv, 1, none⟩ (.slice A1 fr.length c1)).setCell ⟨gv, 2, none⟩ (.int .i64 q1)) gv 3 (.int .i64 q2))) (grown_set (((((((w9.setCell ⟨gv, 2, none⟩ (.int .i64 q1)).setCell ⟨gv, 3, none⟩ (.int .i64 q2)).setCell ⟨gv, 4, none⟩ (.slice A3 q3.length c3)).setCell ⟨gv, 0, none⟩ (.int .i64 m)).setCell ⟨gv, 1, none⟩ (.slice A1 fr.length c1)).setCell ⟨gv, 2, none⟩ (.int .i64 q1)).setCell ⟨gv, 3, none⟩ (.int .i64 q2)) gv 4 (.slice A3 q3.length c3))) (grown_set ((((((((w9.setCell ⟨gv, 2, none⟩ (.int .i64 q1)).setCell ⟨gv, 3, none⟩ (.int .i64 q2)).setCell ⟨gv, 4, none⟩ (.slice A3 q3.length c3)).setCell ⟨gv, 0, none⟩ (.int .i64 m)).setCell ⟨gv, 1, none⟩ (.slice A1 fr.length c1)).setCell ⟨gv, 2, none⟩ (.int .i64 q1)).setCell ⟨gv, 3, none⟩ (.int .i64 q2)).setCell ⟨gv, 4, none⟩ (.slice A3 q3.length c3)) gv 5 (.int .i64 nn)))
              replace HO1 := Aside0.mk (R_keep HO1.out hgz HLO.out.1)
              replace HV := Aside0.mk (R_keep HV.out hgz HL8.out.1)
              clear hgz
              clear c0_ cf0_ c1_ cf1_ c2_ cf2_ c3_ cf3_ c4_ cf4_ c5_ cf5_
              generalize ((((((((w9.setCell ⟨gv, 2, none⟩ (.int .i64 q1)).setCell ⟨gv, 3, none⟩ (.int .i64 q2)).setCell ⟨gv, 4, none⟩ (.slice A3 q3.length c3)).setCell ⟨gv, 0, none⟩ (.int .i64 m)).setCell ⟨gv, 1, none⟩ (.slice A1 fr.length c1)).setCell ⟨gv, 2, none⟩ (.int .i64 q1)).setCell ⟨gv, 3, none⟩ (.int .i64 q2)).setCell ⟨gv, 4, none⟩ (.slice A3 q3.length c3)).setCell ⟨gv, 5, none⟩ (.int .i64 nn) = wz at HZ HO1 HV ⊢
              have p0_ := (blk_cell HZ.cell 0).trans (rfl : _ = some ((.int .i64 m) : Value))
              have p1_ := (blk_cell HZ.cell 1).trans (rfl : _ = some ((.slice A1 fr.length c1) : Value))
              have p2_ := (blk_cell HZ.cell 2).trans (rfl : _ = some ((.int .i64 q1) : Value))
              have p3_ := (blk_cell HZ.cell 3).trans (rfl : _ = some ((.int .i64 q2) : Value))
              have p4_ := (blk_cell HZ.cell 4).trans (rfl : _ = some ((.slice A3 q3.length c3) : Value))
              have p5_ := (blk_cell HZ.cell 5).trans (rfl : _ = some ((.int .i64 nn) : Value))
              refine bodyPost_ret (v := .tuple #[.agg #[.int .i64 m, .slice A1 fr.length c1, .int .i64 q1, .int .i64 q2, .slice A3 q3.length c3, .int .i64 nn], .int .i64 0]) (by simp [results, Try.results30, go_sem, p0_, p1_, p2_, p3_, p4_, p5_]) rfl ?_
              have low := HLO.out
              have hsz := HZ.sz
              refine ⟨HZ.g, ?_⟩
              rw [HGE.out]
              exact ⟨_, _, rfl, Kd.R_lower HO1.out low.2.2, Kd.R_lower HV.out HL8.out.2, HZ.rdr⟩
            · have HGE : Aside0 (rdV xs = .inl q4) := ⟨by rw [HG4.out]; unfold rdV5; rw [if_pos HX.out, HQ.out]; simp only; rw [if_pos hq4]⟩
              have HNZ := Aside0.mk hq4
              clear hq4
              go_wp2_with fail
              have HZ := (((((((((HS.out.put 2 (.int .i64 q1) (cs' := #[.int .i64 m, .slice A1 fr.length c1, .int .i64 q1, .int .i64 0, .slice none 0 0, .int .i64 nn]) rfl).put 3 (.int .i64 q2) (cs' := #[.int .i64 m, .slice A1 fr.length c1, .int .i64 q1, .int .i64 q2, .slice none 0 0, .int .i64 nn]) rfl).put 4 (.slice A3 q3.length c3) (cs' := #[.int .i64 m, .slice A1 fr.length c1, .int .i64 q1, .int .i64 q2, .slice A3 q3.length c3, .int .i64 nn]) rfl).put 0 (.int .i64 m) (cs' := #[.int .i64 m, .slice A1 fr.length c1, .int .i64 q1, .int .i64 q2, .slice A3 q3.length c3, .int .i64 nn]) rfl).put 1 (.slice A1 fr.length c1) (cs' := #[.int .i64 m, .slice A1 fr.length c1, .int .i64 q1, .int .i64 q2, .slice A3 q3.length c3, .int .i64 nn]) rfl).put 2 (.int .i64 q1) (cs' := #[.int .i64 m, .slice A1 fr.length c1, .int .i64 q1, .int .i64 q2, .slice A3 q3.length c3, .int .i64 nn]) rfl).put 3 (.int .i64 q2) (cs' := #[.int .i64 m, .slice A1 fr.length c1, .int .i64 q1, .int .i64 q2, .slice A3 q3.length c3, .int .i64 nn]) rfl).put 4 (.slice A3 q3.length c3) (cs' := #[.int .i64 m, .slice A1 fr.length c1, .int .i64 q1, .int .i64 q2, .slice A3 q3.length c3, .int .i64 nn]) rfl).put 5 (.int .i64 nn) (cs' := #[.int .i64 m, .slice A1 fr.length c1, .int .i64 q1, .int .i64 q2, .slice A3 q3.length c3, .int .i64 nn]) rfl)
              clear c0_ cf0_ c1_ cf1_ c2_ cf2_ c3_ cf3_ c4_ cf4_ c5_ cf5_
              generalize ((((((((w9.setCell ⟨gv, 2, none⟩ (.int .i64 q1)).setCell ⟨gv, 3, none⟩ (.int .i64 q2)).setCell ⟨gv, 4, none⟩ (.slice A3 q3.length c3)).setCell ⟨gv, 0, none⟩ (.int .i64 m)).setCell ⟨gv, 1, none⟩ (.slice A1 fr.length c1)).setCell ⟨gv, 2, none⟩ (.int .i64 q1)).setCell ⟨gv, 3, none⟩ (.int .i64 q2)).setCell ⟨gv, 4, none⟩ (.slice A3 q3.length c3)).setCell ⟨gv, 5, none⟩ (.int .i64 nn) = wz at HZ  ⊢
              have p0_ := (blk_cell HZ.cell 0).trans (rfl : _ = some ((.int .i64 m) : Value))
              have p1_ := (blk_cell HZ.cell 1).trans (rfl : _ = some ((.slice A1 fr.length c1) : Value))
              have p2_ := (blk_cell HZ.cell 2).trans (rfl : _ = some ((.int .i64 q1) : Value))
              have p3_ := (blk_cell HZ.cell 3).trans (rfl : _ = some ((.int .i64 q2) : Value))
              have p4_ := (blk_cell HZ.cell 4).trans (rfl : _ = some ((.slice A3 q3.length c3) : Value))
              have p5_ := (blk_cell HZ.cell 5).trans (rfl : _ = some ((.int .i64 nn) : Value))
              refine bodyPost_ret (v := .tuple #[.agg #[.int .i64 m, .slice A1 fr.length c1, .int .i64 q1, .int .i64 q2, .slice A3 q3.length c3, .int .i64 nn], .int .i64 q4]) (by simp [results, Try.results30, go_sem, p0_, p1_, p2_, p3_, p4_, p5_]) rfl ?_
              exact ⟨HZ.g, by rw [HGE.out]; exact ⟨HNZ.out, _, _, _, _, _, _, _, _, _, _, rfl⟩⟩
          · have h1 : decide ((ex.length : Int) > 0) = false := decide_eq_false (by omega)
            have h1b : decide ((0 : Int) < (ex.length : Int)) = false := decide_eq_false (by omega)
            have h1c : decide (0 < ex.length) = false := decide_eq_false hx
            have HGE : Aside0 (rdV xs = .inr (⟨m, fr, ⟨0, 0, []⟩, nn⟩, r4)) := ⟨by rw [HG4.out]; unfold rdV5; rw [if_neg hx]⟩
            clear hx
            go_wp2_with fail
            have HZ := ((((((HS.out.put 0 (.int .i64 m) (cs' := #[.int .i64 m, .slice A1 fr.length c1, .int .i64 0, .int .i64 0, .slice none 0 0, .int .i64 nn]) rfl).put 1 (.slice A1 fr.length c1) (cs' := #[.int .i64 m, .slice A1 fr.length c1, .int .i64 0, .int .i64 0, .slice none 0 0, .int .i64 nn]) rfl).put 2 (.int .i64 0) (cs' := #[.int .i64 m, .slice A1 fr.length c1, .int .i64 0, .int .i64 0, .slice none 0 0, .int .i64 nn]) rfl).put 3 (.int .i64 0) (cs' := #[.int .i64 m, .slice A1 fr.length c1, .int .i64 0, .int .i64 0, .slice none 0 0, .int .i64 nn]) rfl).put 4 (.slice none 0 0) (cs' := #[.int .i64 m, .slice A1 fr.length c1, .int .i64 0, .int .i64 0, .slice none 0 0, .int .i64 nn]) rfl).put 5 (.int .i64 nn) (cs' := #[.int .i64 m, .slice A1 fr.length c1, .int .i64 0, .int .i64 0, .slice none 0 0, .int .i64 nn]) rfl)
            have hgz : w8.grownBy ((((((w8.setCell ⟨gv, 0, none⟩ (.int .i64 m)).setCell ⟨gv, 1, none⟩ (.slice A1 fr.length c1)).setCell ⟨gv, 2, none⟩ (.int .i64 0)).setCell ⟨gv, 3, none⟩ (.int .i64 0)).setCell ⟨gv, 4, none⟩ (.slice none 0 0)).setCell ⟨gv, 5, none⟩ (.int .i64 nn)) (some gv) := (grown_trans (grown_trans (grown_trans (grown_trans (grown_trans (grown_set w8 gv 0 (.int .i64 m)) (grown_set (w8.setCell ⟨gv, 0, none⟩ (.int .i64 m)) gv 1 (.slice A1 fr.length c1))) (grown_set ((w8.setCell ⟨gv, 0, none⟩ (.int .i64 m)).setCell ⟨gv, 1, none⟩ (.slice A1 fr.length c1)) gv 2 (.int .i64 0))) (grown_set (((w8.setCell ⟨gv, 0, none⟩ (.int .i64 m)).setCell ⟨gv, 1, none⟩ (.slice A1 fr.length c1)).setCell ⟨gv, 2, none⟩ (.int .i64 0)) gv 3 (.int .i64 0))) (grown_set ((((w8.setCell ⟨gv, 0, none⟩ (.int .i64 m)).setCell ⟨gv, 1, none⟩ (.slice A1 fr.length c1)).setCell ⟨gv, 2, none⟩ (.int .i64 0)).setCell ⟨gv, 3, none⟩ (.int .i64 0)) gv 4 (.slice none 0 0))) (grown_set (((((w8.setCell ⟨gv, 0, none⟩ (.int .i64 m)).setCell ⟨gv, 1, none⟩ (.slice A1 fr.length c1)).setCell ⟨gv, 2, none⟩ (.int .i64 0)).setCell ⟨gv, 3, none⟩ (.int .i64 0)).setCell ⟨gv, 4, none⟩ (.slice none 0 0)) gv 5 (.int .i64 nn)))
            replace HO1 := Aside0.mk (R_keep HO1.out hgz HLO.out.1)
            clear hgz
            clear c0_ cf0_ c1_ cf1_ c2_ cf2_ c3_ cf3_ c4_ cf4_ c5_ cf5_
            generalize (((((w8.setCell ⟨gv, 0, none⟩ (.int .i64 m)).setCell ⟨gv, 1, none⟩ (.slice A1 fr.length c1)).setCell ⟨gv, 2, none⟩ (.int .i64 0)).setCell ⟨gv, 3, none⟩ (.int .i64 0)).setCell ⟨gv, 4, none⟩ (.slice none 0 0)).setCell ⟨gv, 5, none⟩ (.int .i64 nn) = wz at HZ HO1 ⊢
            have p0_ := (blk_cell HZ.cell 0).trans (rfl : _ = some ((.int .i64 m) : Value))
            have p1_ := (blk_cell HZ.cell 1).trans (rfl : _ = some ((.slice A1 fr.length c1) : Value))
            have p2_ := (blk_cell HZ.cell 2).trans (rfl : _ = some ((.int .i64 0) : Value))
            have p3_ := (blk_cell HZ.cell 3).trans (rfl : _ = some ((.int .i64 0) : Value))
            have p4_ := (blk_cell HZ.cell 4).trans (rfl : _ = some ((.slice none 0 0) : Value))
            have p5_ := (blk_cell HZ.cell 5).trans (rfl : _ = some ((.int .i64 nn) : Value))
            refine bodyPost_ret (v := .tuple #[.agg #[.int .i64 m, .slice A1 fr.length c1, .int .i64 0, .int .i64 0, .slice none 0 0, .int .i64 nn], .int .i64 0]) (by simp [results, Try.results30, go_sem, p0_, p1_, p2_, p3_, p4_, p5_]) rfl ?_
            have low := HLO.out
            have hsz := HZ.sz
            refine ⟨HZ.g, ?_⟩
            rw [HGE.out]
            exact ⟨_, _, rfl, Kd.R_lower HO1.out low.2.2, Kd.R_nil _ _ _ _ _, HZ.rdr⟩
        · have herb : (er4 != 0) = true := by simpa using her
          have herb2 : (er4 == 0) = false := by simpa using her
          have HGE : Aside0 (rdV xs = .inl er4) := ⟨by rw [HG3.out]; unfold rdV4; rw [HER4.out, if_pos her]⟩
          have HNZ := Aside0.mk her
          clear her
          go_wp2_with fail
          have HZ := ((((((HS.out.put 0 (.int .i64 m) (cs' := #[.int .i64 m, .slice A1 fr.length c1, .int .i64 0, .int .i64 0, .slice none 0 0, .int .i64 nn]) rfl).put 1 (.slice A1 fr.length c1) (cs' := #[.int .i64 m, .slice A1 fr.length c1, .int .i64 0, .int .i64 0, .slice none 0 0, .int .i64 nn]) rfl).put 2 (.int .i64 0) (cs' := #[.int .i64 m, .slice A1 fr.length c1, .int .i64 0, .int .i64 0, .slice none 0 0, .int .i64 nn]) rfl).put 3 (.int .i64 0) (cs' := #[.int .i64 m, .slice A1 fr.length c1, .int .i64 0, .int .i64 0, .slice none 0 0, .int .i64 nn]) rfl).put 4 (.slice none 0 0) (cs' := #[.int .i64 m, .slice A1 fr.length c1, .int .i64 0, .int .i64 0, .slice none 0 0, .int .i64 nn]) rfl).put 5 (.int .i64 nn) (cs' := #[.int .i64 m, .slice A1 fr.length c1, .int .i64 0, .int .i64 0, .slice none 0 0, .int .i64 nn]) rfl)
          clear c0_ cf0_ c1_ cf1_ c2_ cf2_ c3_ cf3_ c4_ cf4_ c5_ cf5_
          generalize (((((w8.setCell ⟨gv, 0, none⟩ (.int .i64 m)).setCell ⟨gv, 1, none⟩ (.slice A1 fr.length c1)).setCell ⟨gv, 2, none⟩ (.int .i64 0)).setCell ⟨gv, 3, none⟩ (.int .i64 0)).setCell ⟨gv, 4, none⟩ (.slice none 0 0)).setCell ⟨gv, 5, none⟩ (.int .i64 nn) = wz at HZ  ⊢
          have p0_ := (blk_cell HZ.cell 0).trans (rfl : _ = some ((.int .i64 m) : Value))
          have p1_ := (blk_cell HZ.cell 1).trans (rfl : _ = some ((.slice A1 fr.length c1) : Value))
          have p2_ := (blk_cell HZ.cell 2).trans (rfl : _ = some ((.int .i64 0) : Value))
          have p3_ := (blk_cell HZ.cell 3).trans (rfl : _ = some ((.int .i64 0) : Value))
          have p4_ := (blk_cell HZ.cell 4).trans (rfl : _ = some ((.slice none 0 0) : Value))
          have p5_ := (blk_cell HZ.cell 5).trans (rfl : _ = some ((.int .i64 nn) : Value))
          refine bodyPost_ret (v := .tuple #[.agg #[.int .i64 m, .slice A1 fr.length c1, .int .i64 0, .int .i64 0, .slice none 0 0, .int .i64 nn], .int .i64 er4]) (by simp [results, Try.results30, go_sem, p0_, p1_, p2_, p3_, p4_, p5_]) rfl ?_
          exact ⟨HZ.g, by rw [HGE.out]; exact ⟨HNZ.out, _, _, _, _, _, _, _, _, _, _, rfl⟩⟩
      · have herb : (er3 != 0) = true := by simpa using her
        have herb2 : (er3 == 0) = false := by simpa using her
        have HGE : Aside0 (rdV xs = .inl er3) := ⟨by rw [HG2.out]; unfold rdV3; rw [HER3.out, if_pos her]⟩
        have HNZ := Aside0.mk her
        clear her
        go_wp2_with fail
        have HZ := (((((((HS.out.put 5 (.int .i64 nn) (cs' := #[.int .i64 m, .slice A1 fr.length c1, .int .i64 0, .int .i64 0, .slice none 0 0, .int .i64 nn]) rfl).put 0 (.int .i64 m) (cs' := #[.int .i64 m, .slice A1 fr.length c1, .int .i64 0, .int .i64 0, .slice none 0 0, .int .i64 nn]) rfl).put 1 (.slice A1 fr.length c1) (cs' := #[.int .i64 m, .slice A1 fr.length c1, .int .i64 0, .int .i64 0, .slice none 0 0, .int .i64 nn]) rfl).put 2 (.int .i64 0) (cs' := #[.int .i64 m, .slice A1 fr.length c1, .int .i64 0, .int .i64 0, .slice none 0 0, .int .i64 nn]) rfl).put 3 (.int .i64 0) (cs' := #[.int .i64 m, .slice A1 fr.length c1, .int .i64 0, .int .i64 0, .slice none 0 0, .int .i64 nn]) rfl).put 4 (.slice none 0 0) (cs' := #[.int .i64 m, .slice A1 fr.length c1, .int .i64 0, .int .i64 0, .slice none 0 0, .int .i64 nn]) rfl).put 5 (.int .i64 nn) (cs' := #[.int .i64 m, .slice A1 fr.length c1, .int .i64 0, .int .i64 0, .slice none 0 0, .int .i64 nn]) rfl)
        clear c0_ cf0_ c1_ cf1_ c2_ cf2_ c3_ cf3_ c4_ cf4_ c5_ cf5_
        generalize ((((((w6.setCell ⟨gv, 5, none⟩ (.int .i64 nn)).setCell ⟨gv, 0, none⟩ (.int .i64 m)).setCell ⟨gv, 1, none⟩ (.slice A1 fr.length c1)).setCell ⟨gv, 2, none⟩ (.int .i64 0)).setCell ⟨gv, 3, none⟩ (.int .i64 0)).setCell ⟨gv, 4, none⟩ (.slice none 0 0)).setCell ⟨gv, 5, none⟩ (.int .i64 nn) = wz at HZ  ⊢
        have p0_ := (blk_cell HZ.cell 0).trans (rfl : _ = some ((.int .i64 m) : Value))
        have p1_ := (blk_cell HZ.cell 1).trans (rfl : _ = some ((.slice A1 fr.length c1) : Value))
        have p2_ := (blk_cell HZ.cell 2).trans (rfl : _ = some ((.int .i64 0) : Value))
        have p3_ := (blk_cell HZ.cell 3).trans (rfl : _ = some ((.int .i64 0) : Value))
        have p4_ := (blk_cell HZ.cell 4).trans (rfl : _ = some ((.slice none 0 0) : Value))
        have p5_ := (blk_cell HZ.cell 5).trans (rfl : _ = some ((.int .i64 nn) : Value))
        refine bodyPost_ret (v := .tuple #[.agg #[.int .i64 m, .slice A1 fr.length c1, .int .i64 0, .int .i64 0, .slice none 0 0, .int .i64 nn], .int .i64 er3]) (by simp [results, Try.results30, go_sem, p0_, p1_, p2_, p3_, p4_, p5_]) rfl ?_
        exact ⟨HZ.g, by rw [HGE.out]; exact ⟨HNZ.out, _, _, _, _, _, _, _, _, _, _, rfl⟩⟩
    · have herb : (er2 != 0) = true := by simpa using her
      have herb2 : (er2 == 0) = false := by simpa using her
      have HGE : Aside0 (rdV xs = .inl er2) := ⟨by rw [HG1.out]; unfold rdV2; rw [HER2.out, if_pos her]⟩
      have HNZ := Aside0.mk her
      clear her
      go_wp2_with fail
      have HZ := (((((((HS.out.put 1 (.slice A1 fr.length c1) (cs' := #[.int .i64 m, .slice A1 fr.length c1, .int .i64 0, .int .i64 0, .slice none 0 0, .int .i64 0]) rfl).put 0 (.int .i64 m) (cs' := #[.int .i64 m, .slice A1 fr.length c1, .int .i64 0, .int .i64 0, .slice none 0 0, .int .i64 0]) rfl).put 1 (.slice A1 fr.length c1) (cs' := #[.int .i64 m, .slice A1 fr.length c1, .int .i64 0, .int .i64 0, .slice none 0 0, .int .i64 0]) rfl).put 2 (.int .i64 0) (cs' := #[.int .i64 m, .slice A1 fr.length c1, .int .i64 0, .int .i64 0, .slice none 0 0, .int .i64 0]) rfl).put 3 (.int .i64 0) (cs' := #[.int .i64 m, .slice A1 fr.length c1, .int .i64 0, .int .i64 0, .slice none 0 0, .int .i64 0]) rfl).put 4 (.slice none 0 0) (cs' := #[.int .i64 m, .slice A1 fr.length c1, .int .i64 0, .int .i64 0, .slice none 0 0, .int .i64 0]) rfl).put 5 (.int .i64 0) (cs' := #[.int .i64 m, .slice A1 fr.length c1, .int .i64 0, .int .i64 0, .slice none 0 0, .int .i64 0]) rfl)
      clear c0_ cf0_ c1_ cf1_ c2_ cf2_ c3_ cf3_ c4_ cf4_ c5_ cf5_
      generalize ((((((w4.setCell ⟨gv, 1, none⟩ (.slice A1 fr.length c1)).setCell ⟨gv, 0, none⟩ (.int .i64 m)).setCell ⟨gv, 1, none⟩ (.slice A1 fr.length c1)).setCell ⟨gv, 2, none⟩ (.int .i64 0)).setCell ⟨gv, 3, none⟩ (.int .i64 0)).setCell ⟨gv, 4, none⟩ (.slice none 0 0)).setCell ⟨gv, 5, none⟩ (.int .i64 0) = wz at HZ  ⊢
      have p0_ := (blk_cell HZ.cell 0).trans (rfl : _ = some ((.int .i64 m) : Value))
      have p1_ := (blk_cell HZ.cell 1).trans (rfl : _ = some ((.slice A1 fr.length c1) : Value))
      have p2_ := (blk_cell HZ.cell 2).trans (rfl : _ = some ((.int .i64 0) : Value))
      have p3_ := (blk_cell HZ.cell 3).trans (rfl : _ = some ((.int .i64 0) : Value))
      have p4_ := (blk_cell HZ.cell 4).trans (rfl : _ = some ((.slice none 0 0) : Value))
      have p5_ := (blk_cell HZ.cell 5).trans (rfl : _ = some ((.int .i64 0) : Value))
      refine bodyPost_ret (v := .tuple #[.agg #[.int .i64 m, .slice A1 fr.length c1, .int .i64 0, .int .i64 0, .slice none 0 0, .int .i64 0], .int .i64 er2]) (by simp [results, Try.results30, go_sem, p0_, p1_, p2_, p3_, p4_, p5_]) rfl ?_
      exact ⟨HZ.g, by rw [HGE.out]; exact ⟨HNZ.out, _, _, _, _, _, _, _, _, _, _, rfl⟩⟩
  · have herb : (er != 0) = true := by simpa using her
    have herb2 : (er == 0) = false := by simpa using her
    have HGE : Aside0 (rdV xs = .inl er) := ⟨by unfold rdV; rw [HER.out, if_pos her]⟩
    have HNZ := Aside0.mk her
    clear her
    have c0_ := (blk_cell HS.out.cell 0).trans (rfl : _ = some ((.int .i64 0) : Value))
    have c1_ := (blk_cell HS.out.cell 1).trans (rfl : _ = some ((.slice none 0 0) : Value))
    have c2_ := (blk_cell HS.out.cell 2).trans (rfl : _ = some ((.int .i64 0) : Value))
    have c3_ := (blk_cell HS.out.cell 3).trans (rfl : _ = some ((.int .i64 0) : Value))
    have c4_ := (blk_cell HS.out.cell 4).trans (rfl : _ = some ((.slice none 0 0) : Value))
    have c5_ := (blk_cell HS.out.cell 5).trans (rfl : _ = some ((.int .i64 0) : Value))
    have cf0_ := blk_frozen HS.out.cell 0
    have cf1_ := blk_frozen HS.out.cell 1
    have cf2_ := blk_frozen HS.out.cell 2
    have cf3_ := blk_frozen HS.out.cell 3
    have cf4_ := blk_frozen HS.out.cell 4
    have cf5_ := blk_frozen HS.out.cell 5
    go_wp2_with fail
    have HZ := ((((((HS.out.put 0 (.int .i64 0) (cs' := #[.int .i64 0, .slice none 0 0, .int .i64 0, .int .i64 0, .slice none 0 0, .int .i64 0]) rfl).put 1 (.slice none 0 0) (cs' := #[.int .i64 0, .slice none 0 0, .int .i64 0, .int .i64 0, .slice none 0 0, .int .i64 0]) rfl).put 2 (.int .i64 0) (cs' := #[.int .i64 0, .slice none 0 0, .int .i64 0, .int .i64 0, .slice none 0 0, .int .i64 0]) rfl).put 3 (.int .i64 0) (cs' := #[.int .i64 0, .slice none 0 0, .int .i64 0, .int .i64 0, .slice none 0 0, .int .i64 0]) rfl).put 4 (.slice none 0 0) (cs' := #[.int .i64 0, .slice none 0 0, .int .i64 0, .int .i64 0, .slice none 0 0, .int .i64 0]) rfl).put 5 (.int .i64 0) (cs' := #[.int .i64 0, .slice none 0 0, .int .i64 0, .int .i64 0, .slice none 0 0, .int .i64 0]) rfl)
    clear c0_ cf0_ c1_ cf1_ c2_ cf2_ c3_ cf3_ c4_ cf4_ c5_ cf5_
    generalize (((((w2.setCell ⟨gv, 0, none⟩ (.int .i64 0)).setCell ⟨gv, 1, none⟩ (.slice none 0 0)).setCell ⟨gv, 2, none⟩ (.int .i64 0)).setCell ⟨gv, 3, none⟩ (.int .i64 0)).setCell ⟨gv, 4, none⟩ (.slice none 0 0)).setCell ⟨gv, 5, none⟩ (.int .i64 0) = wz at HZ  ⊢
    have p0_ := (blk_cell HZ.cell 0).trans (rfl : _ = some ((.int .i64 0) : Value))
    have p1_ := (blk_cell HZ.cell 1).trans (rfl : _ = some ((.slice none 0 0) : Value))
    have p2_ := (blk_cell HZ.cell 2).trans (rfl : _ = some ((.int .i64 0) : Value))
    have p3_ := (blk_cell HZ.cell 3).trans (rfl : _ = some ((.int .i64 0) : Value))
    have p4_ := (blk_cell HZ.cell 4).trans (rfl : _ = some ((.slice none 0 0) : Value))
    have p5_ := (blk_cell HZ.cell 5).trans (rfl : _ = some ((.int .i64 0) : Value))
    refine bodyPost_ret (v := .tuple #[.agg #[.int .i64 0, .slice none 0 0, .int .i64 0, .int .i64 0, .slice none 0 0, .int .i64 0], .int .i64 er]) (by simp [results, Try.results30, go_sem, p0_, p1_, p2_, p3_, p4_, p5_]) rfl ?_
    exact ⟨HZ.g, by rw [HGE.out]; exact ⟨HNZ.out, _, _, _, _, _, _, _, _, _, _, rfl⟩⟩
end Go.Proofs.Yteanncfmaomhaaa.Ex
namespace Go.Proofs.Yteanncfmaomhaaa.Ex
open Go Go.RowKit Go.Proofs.Yteanncfmaomhaaa.Pk Go.Proofs.YteanncfmaomhaaaW.PrintWords
set_option linter.unusedVariables false
set_option linter.unusedSimpArgs false
def exB (e : E) : List Int := if mayB e = true then putD 16 e else []
def vB (v : Vx) : List Int := enc v.f0 ++ ((enc v.f1.length ++ uenc v.f1) ++ (enc (uns v.f3) ++ (enc (exB v.f2).length ++ exB v.f2)))
def tB (l : List Vx) (p : Int) : List Int := enc p ++ (enc l.length ++ l.flatMap vB)
theorem zeroE_may : mayB ⟨0, 0, []⟩ = false := by decide +kernel
theorem zeroE_wf : wfE ⟨0, 0, []⟩ := wfE.mk 0 0 [] (by unfold I64; decide) (by unfold I64; decide) (by simp) (fun x hx => (List.not_mem_nil hx).elim)
theorem exB_byt (e : E) : Byt (exB e) := by
  unfold exB
  split
  · exact putD_byt 16 e
  · exact fun x hx => (List.not_mem_nil hx).elim
theorem exB_len {e : E} (hw : wfE e) : (exB e).length ≤ 1280 := by
  unfold exB
  split
  · rename_i h
    have hm := mayB_iff e
    rw [h] at hm
    have hm2 := Bool.and_eq_true_iff.1 hm.symm
    have hc := of_decide_eq_true hm2.2
    have := putD_len 16 e hw (okB_succ hm2.1).1.1 hm2.1
    omega
  · simp
theorem ofE_put {e : E} (h : mayB e = true) (hw : wfE e) : ofE (putD 16 e) = (e.f0, e.f1, e.f2, 0) ∧ 0 < (putD 16 e).length := by
  have hm := mayB_iff e
  rw [h] at hm
  have hm2 := Bool.and_eq_true_iff.1 hm.symm
  have hc := of_decide_eq_true hm2.2
  have hb := get_back 16 e hm2.1 hw [] 64 hc
  rw [List.append_nil] at hb
  refine ⟨by unfold ofE; rw [hb]; simp, ?_⟩
  cases hp : putD 16 e with
  | nil =>
    rw [hp] at hb
    have : getE 16 [] 64 = .inl 4 := get_head (d := 15) (by decide) (by have := head_err (xs := []) (by rw [rdU_nil]; decide); rw [rdU_nil] at this; exact this)
    rw [this] at hb
    cases hb
  | cons a b => simp
/-- What is read of bytes is none, with an error that is none's, or it is an expression that may be, whose bytes these are. -/
theorem of_cases {xs : List Int} (hb : Byt xs) : ∃ x : E, wfE x ∧ (ofE xs).1 = x.f0 ∧ (ofE xs).2.1 = x.f1 ∧ (ofE xs).2.2.1 = x.f2 ∧ (((ofE xs).2.2.2 ≠ 0) ∨ ((ofE xs).2.2.2 = 0 ∧ mayB x = true ∧ putD 16 x = xs)) := by
  unfold ofE
  cases h : getE 16 xs 64 with
  | inl e => exact ⟨⟨0, 0, []⟩, zeroE_wf, rfl, rfl, rfl, .inl (get_nz 16 xs 64 e h)⟩
  | inr q =>
    obtain ⟨x, r, l1⟩ := q
    simp only
    have hw := (get_wf 16 xs 64 x r l1 hb h).1
    have hi := get_is 16 xs 64 x r l1 hb h
    split
    · refine ⟨⟨0, 0, []⟩, zeroE_wf, rfl, rfl, rfl, .inl ?_⟩
      simp
    · rename_i hr
      have hr' : r = [] := by
        cases r with
        | nil => rfl
        | cons y t => exact absurd (by simp) hr
      subst hr'
      refine ⟨x, hw, rfl, rfl, rfl, .inr ⟨rfl, ?_, ?_⟩⟩
      · rw [mayB_iff, hi.1, Bool.true_and]
        exact decide_eq_true (by omega)
      · have := hi.2.1
        rw [List.append_nil] at this
        exact this.symm
/-- What a vertex must be for its bytes to be read back. -/
structure Fit (v : Vx) : Prop where
  kind : 0 ≤ v.f0 ∧ v.f0 ≤ 10
  few : v.f1.length ≤ 2
  ahead : ∀ x ∈ v.f1, 0 ≤ x ∧ x < 24
  num : I64 v.f3
  ex : (mayB v.f2 = true ∧ wfE v.f2) ∨ v.f2 = ⟨0, 0, []⟩
theorem rdV_back {v : Vx} (h : Fit v) (t : List Int) : rdV (vB v ++ t) = .inr (v, t) := by
  have hk := h.kind
  have hn := h.num
  unfold I64 at hn
  unfold rdV vB
  simp only [List.append_assoc]
  rw [rdU_enc (by omega) (by omega)]
  simp only [ne_eq, not_true_eq_false, if_false]
  have hc : capV v.f0 = v.f0 := by unfold capV; rw [if_neg (by omega)]
  rw [hc]
  unfold rdV2
  rw [rdL_enc (fun n hn => by have := h.ahead n hn; omega) (by have := h.few; omega) (by have := h.few; omega)]
  simp only [ne_eq, not_true_eq_false, if_false]
  unfold rdV3
  rw [rdU_uenc hn.1 hn.2]
  simp only [ne_eq, not_true_eq_false, if_false, sgn_uns]
  unfold rdV4
  have hx : (exB v.f2).length < 9223372036854775808 := by
    rcases h.ex with ⟨_, hw⟩ | he
    · have := exB_len hw; omega
    · rw [he]; unfold exB; rw [zeroE_may]; simp
  rw [rdB_enc _ _ hx]
  simp only [ne_eq, not_true_eq_false, if_false]
  unfold rdV5
  rcases h.ex with ⟨hm, hw⟩ | he
  · have hp := ofE_put hm hw
    have hex : exB v.f2 = putD 16 v.f2 := by unfold exB; rw [if_pos hm]
    rw [hex, if_pos hp.2, hp.1]
    simp only [ne_eq, not_true_eq_false, if_false]
    have hx2 : (⟨v.f2.f0, v.f2.f1, v.f2.f2⟩ : E) = v.f2 := by cases v.f2; rfl
    rw [hx2]
  · have hex : exB v.f2 = [] := by rw [he]; unfold exB; rw [zeroE_may]; simp
    rw [hex]
    simp only [List.length_nil, Nat.lt_irrefl, if_false]
    rw [← he]
theorem rdVs_back : ∀ (l : List Vx), (∀ v ∈ l, Fit v) → ∀ t, rdVs l.length (l.flatMap vB ++ t) = .inr (l, t) := by
  intro l
  induction l with
  | nil => intro _ t; rfl
  | cons v l ih =>
    intro h t
    rw [List.length_cons, List.flatMap_cons, List.append_assoc, rdVs, rdV_back (h v List.mem_cons_self)]
    simp only
    rw [ih (fun u hu => h u (List.mem_cons_of_mem _ hu)) t]
theorem rdIs_is : ∀ (k : Nat) (xs : List Int), Byt xs → (rdIs k xs).2.1 = 0 → xs = uenc (rdIs k xs).1 ++ (rdIs k xs).2.2 ∧ Byt (rdIs k xs).2.2 ∧ (rdIs k xs).1.length = k ∧ ∀ n ∈ (rdIs k xs).1, I64 n := by
  intro k
  induction k with
  | zero => intro xs hb _; exact ⟨rfl, hb, rfl, fun n hn => by cases hn⟩
  | succ k ih =>
    intro xs hb h
    rw [rdIs] at h ⊢
    by_cases h0 : (rdU xs).2.1 ≠ 0
    · rw [if_pos h0] at h; exact absurd h h0
    rw [if_neg h0] at h ⊢
    by_cases h1 : sgn (rdU xs).1 < -2147483648 ∨ 2147483647 < sgn (rdU xs).1
    · rw [if_pos h1] at h; exact absurd h (by simp)
    rw [if_neg h1] at h ⊢
    simp only at h ⊢
    obtain ⟨g0, g1, g2⟩ := rdU_is hb (by simpa using h0)
    obtain ⟨i1, i2, i3, i4⟩ := ih _ (rdU_byt hb) h
    refine ⟨?_, i2, by rw [List.length_cons, i3], fun n hn => ?_⟩
    · rw [uenc_cons, uns_sgn g0, List.append_assoc, ← i1]
      exact g2
    · rcases List.mem_cons.1 hn with rfl | hn
      · exact sgn_range g0 g1
      · exact i4 n hn
theorem rdL_is {m : Int} {xs : List Int} (hb : Byt xs) (h : (rdL m xs).2.1 = 0) : xs = (enc (rdL m xs).1.length ++ uenc (rdL m xs).1) ++ (rdL m xs).2.2 ∧ Byt (rdL m xs).2.2 ∧ ((rdL m xs).1.length : Int) ≤ m ∧ ∀ n ∈ (rdL m xs).1, I64 n := by
  unfold rdL at h ⊢
  by_cases h0 : (rdU xs).2.1 ≠ 0
  · rw [if_pos h0] at h; exact absurd h h0
  rw [if_neg h0] at h ⊢
  by_cases h1 : m < 0 ∨ m < (rdU xs).1
  · rw [if_pos h1] at h; exact absurd h (by simp)
  rw [if_neg h1] at h ⊢
  by_cases h2 : (rdIs (rdU xs).1.toNat (rdU xs).2.2).2.1 ≠ 0
  · rw [if_pos h2] at h; exact absurd h h2
  rw [if_neg h2]
  obtain ⟨g0, g1, g2⟩ := rdU_is hb (by simpa using h0)
  obtain ⟨i1, i2, i3, i4⟩ := rdIs_is _ _ (rdU_byt hb) (by simpa using h2)
  refine ⟨?_, i2, by rw [i3]; omega, i4⟩
  rw [i3, Int.toNat_of_nonneg g0, List.append_assoc, ← i1]
  exact g2
theorem rdB_is {xs : List Int} (hb : Byt xs) (h : (rdB xs).2.1 = 0) : xs = (enc (rdB xs).1.length ++ (rdB xs).1) ++ (rdB xs).2.2 ∧ Byt (rdB xs).1 ∧ Byt (rdB xs).2.2 := by
  unfold rdB at h ⊢
  by_cases h0 : (rdU xs).2.1 ≠ 0
  · rw [if_pos h0] at h; exact absurd h h0
  rw [if_neg h0] at h ⊢
  by_cases h1 : ((rdU xs).2.2.length : Int) < (rdU xs).1
  · rw [if_pos h1] at h; exact absurd h (by simp)
  rw [if_neg h1]
  obtain ⟨g0, g1, g2⟩ := rdU_is hb (by simpa using h0)
  have hr := rdU_byt hb
  refine ⟨?_, fun x hx => hr x (List.mem_of_mem_take hx), fun x hx => hr x (List.mem_of_mem_drop hx)⟩
  simp only
  rw [List.length_take, Nat.min_eq_left (by omega), Int.toNat_of_nonneg g0, List.append_assoc, List.take_append_drop]
  exact g2
/-- What a vertex that was read is. -/
structure Was (v : Vx) : Prop where
  kind : 0 ≤ v.f0 ∧ v.f0 ≤ 1000
  few : v.f1.length ≤ 2
  nums : ∀ x ∈ v.f1, I64 x
  ex : wfE v.f2
  num : I64 v.f3
theorem rdV_is {xs r : List Int} {v : Vx} (hb : Byt xs) (h : rdV xs = .inr (v, r)) : Byt r ∧ Was v ∧ (v.f0 ≤ 999 → xs = vB v ++ r) := by
  unfold rdV at h
  by_cases h0 : (rdU xs).2.1 ≠ 0
  · rw [if_pos h0] at h; cases h
  rw [if_neg h0] at h
  obtain ⟨g0, g1, g2⟩ := rdU_is hb (by simpa using h0)
  have hb1 := rdU_byt hb
  generalize (rdU xs).1 = kd at *
  generalize (rdU xs).2.2 = x1 at *
  unfold rdV2 at h
  by_cases h1 : (rdL 2 x1).2.1 ≠ 0
  · rw [if_pos h1] at h; cases h
  rw [if_neg h1] at h
  obtain ⟨l1, l2, l3, l4⟩ := rdL_is hb1 (by simpa using h1)
  generalize (rdL 2 x1).1 = fr at *
  generalize (rdL 2 x1).2.2 = x2 at *
  unfold rdV3 at h
  by_cases h2 : (rdU x2).2.1 ≠ 0
  · rw [if_pos h2] at h; cases h
  rw [if_neg h2] at h
  obtain ⟨n0, n1, n2⟩ := rdU_is l2 (by simpa using h2)
  have hb3 := rdU_byt l2
  generalize (rdU x2).1 = nn at *
  generalize (rdU x2).2.2 = x3 at *
  unfold rdV4 at h
  by_cases h3 : (rdB x3).2.1 ≠ 0
  · rw [if_pos h3] at h; cases h
  rw [if_neg h3] at h
  obtain ⟨b1, b2, b3⟩ := rdB_is hb3 (by simpa using h3)
  generalize (rdB x3).1 = ex at *
  generalize (rdB x3).2.2 = x4 at *
  have hcap : 0 ≤ capV kd ∧ capV kd ≤ 1000 := by unfold capV; split <;> omega
  have hcap2 : capV kd ≤ 999 → capV kd = kd := by unfold capV; split <;> omega
  have hsg := sgn_range n0 n1
  unfold rdV5 at h
  by_cases h4 : 0 < ex.length
  · rw [if_pos h4] at h
    by_cases h5 : (ofE ex).2.2.2 ≠ 0
    · rw [if_pos h5] at h; cases h
    rw [if_neg h5] at h
    obtain ⟨x, hw, e1, e2, e3, hc⟩ := of_cases b2
    rw [e1, e2, e3] at h
    rcases hc with hc | ⟨_, hm, hp⟩
    · exact absurd hc h5
    injection h with h
    injection h with hv hr
    subst hr
    have hx : (⟨x.f0, x.f1, x.f2⟩ : E) = x := by cases x; rfl
    rw [hx] at hv
    subst hv
    refine ⟨b3, ⟨hcap, by simp only; omega, l4, hw, hsg⟩, fun hk => ?_⟩
    have hex : exB x = ex := by unfold exB; rw [if_pos hm, hp]
    unfold vB
    simp only at hk ⊢
    rw [hcap2 hk, hex, uns_sgn n0]
    simp only [List.append_assoc] at g2 l1 n2 b1 ⊢
    rw [← b1, ← n2, ← l1]
    exact g2
  · rw [if_neg h4] at h
    injection h with h
    injection h with hv hr
    subst hr
    subst hv
    refine ⟨b3, ⟨hcap, by simp only; omega, l4, zeroE_wf, hsg⟩, fun hk => ?_⟩
    have hex : exB ⟨0, 0, []⟩ = ex := by
      unfold exB; rw [zeroE_may]
      cases ex with
      | nil => rfl
      | cons a b => exact absurd (by simp) h4
    unfold vB
    simp only at hk ⊢
    rw [hcap2 hk, hex, uns_sgn n0]
    simp only [List.append_assoc] at g2 l1 n2 b1 ⊢
    rw [← b1, ← n2, ← l1]
    exact g2
theorem rdVs_is : ∀ (m : Nat) (xs : List Int) (l : List Vx) (r : List Int), Byt xs → rdVs m xs = .inr (l, r) → Byt r ∧ l.length = m ∧ (∀ v ∈ l, Was v) ∧ ((∀ v ∈ l, v.f0 ≤ 999) → xs = l.flatMap vB ++ r) := by
  intro m
  induction m with
  | zero =>
    intro xs l r hb h
    rw [rdVs] at h
    injection h with h
    injection h with h1 h2
    subst h1 h2
    exact ⟨hb, rfl, fun v hv => (List.not_mem_nil hv).elim, fun _ => rfl⟩
  | succ m ih =>
    intro xs l r hb h
    rw [rdVs] at h
    cases hg : rdV xs with
    | inl e => rw [hg] at h; cases h
    | inr q =>
      obtain ⟨v, r1⟩ := q
      rw [hg] at h
      simp only at h
      obtain ⟨a1, a2, a3⟩ := rdV_is hb hg
      cases hk : rdVs m r1 with
      | inl e => rw [hk] at h; cases h
      | inr q =>
        obtain ⟨vs, r2⟩ := q
        rw [hk] at h
        simp only at h
        injection h with h
        injection h with h1 h2
        subst h1 h2
        obtain ⟨c1, c2, c3, c4⟩ := ih r1 vs r2 a1 hk
        refine ⟨c1, by rw [List.length_cons, c2], fun u hu => ?_, fun hk => ?_⟩
        · rcases List.mem_cons.1 hu with rfl | hu
          · exact a2
          · exact c3 u hu
        · rw [List.flatMap_cons, List.append_assoc, ← c4 (fun u hu => hk u (List.mem_cons_of_mem _ hu))]
          exact a3 (hk v List.mem_cons_self)
/-- What a vertex without an error is. -/
structure Fine (l : List Vx) (i : Nat) (v : Vx) : Prop where
  kind : 1 ≤ v.f0 ∧ v.f0 ≤ 10
  ahead : ∀ x ∈ v.f1, 0 ≤ x ∧ x < (i : Int)
  has : hasB (fmOf v.f0) v = true
theorem fine_of {l : List Vx} {i : Nat} {v : Vx} {ks : List (Int × Int)} (h : vertOf l i v ks = 0) : Fine l i v := by
  have h1 : ¬ (v.f0 < 1 ∨ 10 < v.f0) := fun hh => by rw [vert1 hh] at h; cases h
  have h2 : v.f1.any (badB i) = false := by
    cases hb : v.f1.any (badB i) with
    | false => rfl
    | true => rw [vert2 h1 hb] at h; cases h
  have h3 : hasB (fmOf v.f0) v = true := by
    cases hb : hasB (fmOf v.f0) v with
    | true => rfl
    | false => rw [vert3 h1 h2 hb] at h; cases h
  refine ⟨by omega, fun x hx => ?_, h3⟩
  have := List.any_eq_false.1 h2 x hx
  unfold badB at this
  simp at this
  omega
theorem checkGo_all (l : List Vx) : ∀ (d i : Nat) (ks : List (Int × Int)), i + d = l.length → (checkGo l i (l.drop i) ks).2 = 0 → ∀ j, i ≤ j → j < l.length → Fine l j (vAt l (j : Int)) := by
  intro d
  induction d with
  | zero => intro i ks hi _ j h1 h2; omega
  | succ d ih =>
    intro i ks hi h j h1 h2
    have hlt : i < l.length := by omega
    rw [drop_vAt hlt] at h
    by_cases hv : vertOf l i (vAt l (i : Int)) ks = 0
    · rw [checkGo_ok hv] at h
      by_cases e : j = i
      · subst e
        exact fine_of hv
      · exact ih (i + 1) _ (by omega) h j (by omega) h2
    · rw [checkGo_bad rfl hv] at h
      exact absurd h hv
theorem check_all {l : List Vx} {p : Int} (h : (checkOf l p).2 = 0) : (1 ≤ p ∧ p ≤ 8) ∧ l.length ≤ 24 ∧ ∀ v ∈ l, ∃ j, j < 24 ∧ Fine l j v := by
  unfold checkOf at h
  split at h
  · cases h
  · rename_i hb
    refine ⟨by omega, by omega, fun v hv => ?_⟩
    obtain ⟨j, hj, rfl⟩ := List.getElem_of_mem hv
    have := checkGo_all l l.length 0 [] (by omega) (by rw [List.drop_zero]; exact h) j (Nat.zero_le _) hj
    rw [vAt_of (by omega) (by omega)] at this
    exact ⟨j, by omega, by simpa using this⟩
theorem fm_fr (k : Int) : (fmOf k).fr ≤ 2 := by
  unfold fmOf
  repeat' split
  all_goals decide
theorem fm_few (k : Int) : 0 ≤ (fmOf k).least ∧ (fmOf k).most ≤ 1048576 := by
  unfold fmOf
  repeat' split
  all_goals decide
theorem fit_of {l : List Vx} {j : Nat} {v : Vx} (hj : j < 24) (h : Fine l j v) (hw : wfE v.f2) : Fit v := by
  have hh := h.has
  unfold hasB at hh
  simp only [Bool.and_eq_true, beq_iff_eq, decide_eq_true_eq] at hh
  obtain ⟨h1, h2, h3, h4⟩ := hh
  have hfr := fm_fr v.f0
  have hfm := fm_few v.f0
  refine ⟨by have := h.kind; omega, by omega, fun x hx => by have := h.ahead x hx; omega, by unfold I64; omega, ?_⟩
  unfold formB at h2
  split at h2
  · exact .inl ⟨(Bool.and_eq_true_iff.1 h2).1, hw⟩
  · right
    unfold zeroB at h2
    simp only [Bool.and_eq_true, beq_iff_eq] at h2
    obtain ⟨z0, z1, z2⟩ := h2
    cases hv : v.f2 with
    | mk a b c =>
      rw [hv] at z0 z1 z2
      simp only at z0 z1 z2
      have : c = [] := List.eq_nil_of_length_eq_zero (by omega)
      rw [z0, z1, this]
/-- What was laid down is read as it was. -/
theorem ofT_back {l : List Vx} {p : Int} (h : (checkOf l p).2 = 0) (hw : ∀ v ∈ l, wfE v.f2) : ofT (tB l p) = (l, p, 0) := by
  obtain ⟨hp, hl, hv⟩ := check_all h
  unfold ofT tB
  rw [rdU_enc (by omega) (by omega)]
  simp only [ne_eq, not_true_eq_false, if_false]
  have hc : capV p = p := by unfold capV; rw [if_neg (by omega)]
  rw [hc]
  unfold ofT2
  rw [rdU_enc (by omega) (by omega)]
  simp only [ne_eq, not_true_eq_false, if_false]
  have hb := rdVs_back l (fun v hm => by obtain ⟨j, hj, hf⟩ := hv v hm; exact fit_of hj hf (hw v hm)) []
  rw [List.append_nil] at hb
  rw [if_neg (by omega), Int.toNat_natCast, hb]
  simp only [ofT3, List.length_nil, Nat.lt_irrefl, if_false]
  rw [h]
  simp
theorem ofT3_is {xs : List Int} {p : Int} {m : Nat} (hb : Byt xs) (hm : m ≤ 24) : ((∀ v ∈ (ofT3 p (rdVs m xs)).1, Was v) ∧ (ofT3 p (rdVs m xs)).1.length ≤ 24 ∧ ((ofT3 p (rdVs m xs)).2.1 = 0 ∨ (ofT3 p (rdVs m xs)).2.1 = p)) ∧
    ((ofT3 p (rdVs m xs)).2.2 = 0 → (checkOf (ofT3 p (rdVs m xs)).1 (ofT3 p (rdVs m xs)).2.1).2 = 0 → (ofT3 p (rdVs m xs)).2.1 = p ∧ (ofT3 p (rdVs m xs)).1.length = m ∧ xs = (ofT3 p (rdVs m xs)).1.flatMap vB) := by
  have bad : ∀ (e : Int), ((∀ v ∈ (([], 0, e) : List Vx × Int × Int).1, Was v) ∧ (([], 0, e) : List Vx × Int × Int).1.length ≤ 24 ∧ ((([], 0, e) : List Vx × Int × Int).2.1 = 0 ∨ (([], 0, e) : List Vx × Int × Int).2.1 = p)) ∧
      ((([], 0, e) : List Vx × Int × Int).2.2 = 0 → (checkOf (([], 0, e) : List Vx × Int × Int).1 (([], 0, e) : List Vx × Int × Int).2.1).2 = 0 → (([], 0, e) : List Vx × Int × Int).2.1 = p ∧ (([], 0, e) : List Vx × Int × Int).1.length = m ∧ xs = (([], 0, e) : List Vx × Int × Int).1.flatMap vB) :=
    fun e => ⟨⟨fun v hv => (List.not_mem_nil hv).elim, by simp, .inl rfl⟩, fun _ h => by simp only [checkOf] at h; simp at h⟩
  cases h : rdVs m xs with
  | inl e => exact bad e
  | inr q =>
    obtain ⟨l, r⟩ := q
    obtain ⟨a1, a2, a3, a4⟩ := rdVs_is m xs l r hb h
    simp only [ofT3]
    by_cases hr : 0 < r.length
    · rw [if_pos hr]; exact bad 5
    rw [if_neg hr]
    by_cases hc : (checkOf l p).2 ≠ 0
    · rw [if_pos hc]; exact bad _
    rw [if_neg hc]
    refine ⟨⟨a3, by simp only; omega, .inr rfl⟩, fun _ h => ⟨rfl, a2, ?_⟩⟩
    simp only at h ⊢
    have hr0 : r = [] := List.eq_nil_of_length_eq_zero (by omega)
    obtain ⟨_, _, hv⟩ := check_all h
    have := a4 (fun v hm => by obtain ⟨j, _, hf⟩ := hv v hm; have := hf.kind; omega)
    rw [hr0, List.append_nil] at this
    exact this
/-- What is read may be, and these are its bytes; or there is an error. -/
theorem ofT_is {xs : List Int} (hb : Byt xs) : ((∀ v ∈ (ofT xs).1, Was v) ∧ (ofT xs).1.length ≤ 24 ∧ (0 ≤ (ofT xs).2.1 ∧ (ofT xs).2.1 ≤ 1000)) ∧ ((ofT xs).2.2 = 0 → (checkOf (ofT xs).1 (ofT xs).2.1).2 = 0 → tB (ofT xs).1 (ofT xs).2.1 = xs) := by
  have bad : ∀ (e : Int), ((∀ v ∈ (([], 0, e) : List Vx × Int × Int).1, Was v) ∧ (([], 0, e) : List Vx × Int × Int).1.length ≤ 24 ∧ (0 ≤ (([], 0, e) : List Vx × Int × Int).2.1 ∧ (([], 0, e) : List Vx × Int × Int).2.1 ≤ 1000)) ∧
      ((([], 0, e) : List Vx × Int × Int).2.2 = 0 → (checkOf (([], 0, e) : List Vx × Int × Int).1 (([], 0, e) : List Vx × Int × Int).2.1).2 = 0 → tB (([], 0, e) : List Vx × Int × Int).1 (([], 0, e) : List Vx × Int × Int).2.1 = xs) :=
    fun e => ⟨⟨fun v hv => (List.not_mem_nil hv).elim, by simp, by simp⟩, fun _ h => by simp only [checkOf] at h; simp at h⟩
  unfold ofT
  by_cases h0 : (rdU xs).2.1 ≠ 0
  · rw [if_pos h0]; exact bad _
  rw [if_neg h0]
  obtain ⟨g0, g1, g2⟩ := rdU_is hb (by simpa using h0)
  have hb1 := rdU_byt hb
  generalize (rdU xs).1 = pp at *
  generalize (rdU xs).2.2 = x1 at *
  unfold ofT2
  by_cases h1 : (rdU x1).2.1 ≠ 0
  · rw [if_pos h1]; exact bad _
  rw [if_neg h1]
  obtain ⟨m0, m1, m2⟩ := rdU_is hb1 (by simpa using h1)
  have hb2 := rdU_byt hb1
  generalize (rdU x1).1 = mm at *
  generalize (rdU x1).2.2 = x2 at *
  by_cases h2 : 24 < mm
  · rw [if_pos h2]; exact bad _
  rw [if_neg h2]
  have hcap : 0 ≤ capV pp ∧ capV pp ≤ 1000 := by unfold capV; split <;> omega
  have hcap2 : capV pp ≤ 999 → capV pp = pp := by unfold capV; split <;> omega
  obtain ⟨⟨k1, k2, k3⟩, k4⟩ := ofT3_is (xs := x2) (p := capV pp) (m := mm.toNat) hb2 (by omega)
  refine ⟨⟨k1, k2, by rcases k3 with k3 | k3 <;> omega⟩, fun he hc => ?_⟩
  obtain ⟨c1, c2, c3⟩ := k4 he hc
  have hp := (check_all hc).1
  generalize ofT3 (capV pp) (rdVs mm.toNat x2) = q at *
  unfold tB
  rw [c1] at hp ⊢
  rw [hcap2 (by omega), c2, Int.toNat_of_nonneg m0, ← c3, ← m2, ← g2]
end Go.Proofs.Yteanncfmaomhaaa.Ex
namespace Go.Proofs.Yteanncfmaomhaaa.Ex
open Go Go.RowKit Go.Proofs.Yteanncfmaomhaaa.Pk Go.Proofs.YteanncfmaomhaaaW.PrintWords Go.Proofs.YteanncfmaomhaaaW.PrintLast Go.Proofs.YteanncfmaomhaaaW.PrintMore
set_option linter.unusedVariables false
set_option linter.unusedSimpArgs false
def topo_Of.f (l0 : List Int) : Option (List Vx × Int × Int) := if bytB l0 = true then some (ofT l0) else none
theorem okV_was {l : List Vx} (h : ∀ v ∈ l, Was v) : okV l = true := by
  unfold okV
  rw [List.all_eq_true]
  intro v hv
  have := (h v hv).num
  unfold I64 at this
  exact decide_eq_true this
theorem infoV : (Try.prog.info? 40).map (fun i => (i.zero, i.size, i.bytes)) = some (some (.agg #[.int .i64 0, .slice none 0 0, .int .i64 0, .int .i64 0, .slice none 0 0, .int .i64 0]), 6, 80) := by kernel_rfl
theorem rdr_rowV {w w1 : World} {base b lo : Nat} {xs : List Int} {ok : Nat → Prop} {v : Value} {L : List Vx} (h : Rdr w base b xs) (hR : Kd.R k40 40 w lo ok v L) (hlo : b < lo) (hg : w.grownBy w1 v.ownBlock) : Rdr w1 base b xs := by
  cases hv : v.ownBlock with
  | none =>
    rw [hv] at hg
    exact h.below ⟨hg.os, hg.tape, hg.output, hg.size, fun k hk => hg.block k hk (by simp)⟩
  | some j =>
    rw [hv] at hg
    obtain ⟨inner, ho⟩ := Kd.R_own hR
    obtain ⟨cells, hc⟩ := own_typed ho j hv
    have := Kd.R_base hR j hv
    exact rdr_turn h (by omega) hc (by decide) hg
set_option maxHeartbeats 4000000 in
set_option maxRecDepth 1000000 in
theorem topo_Of.calls (A0 : Option Addr) (c0 : Nat) (l0 : List Int) (q1 : List Vx) (q2 q3 : Int) (w : World) (hr0 : Kd.C (Kd.int .u8) w A0 l0.length l0) (hc0 : l0.length ≤ c0) (h : topo_Of.f l0 = some (q1, q2, q3)) :
    Calls Try.prog 17 #[.slice A0 l0.length c0] w fun e w' => ∃ v0_ : Value, e = .returned (.tuple #[.agg #[v0_, .int .i64 q2], .int .i64 q3]) ∧ Kd.R k40 40 w' w.heap.size (fun _ => True) v0_ q1 ∧ Below w.heap.size w w' := by
  unfold topo_Of.f at h
  by_cases hby : bytB l0 = true
  rotate_left
  · rw [if_neg hby] at h; cases h
  rw [if_pos hby] at h
  have HY := Aside0.mk (bytB_of hby)
  have HQ := Aside0.mk (Option.some.inj h)
  have HC := Aside0.mk hr0
  have HB := Aside0.mk (Below.refl w.heap.size w)
  clear h hby hr0 hc0
  go_enter Try.func17, Try.ntmps17
  go_upto_region 1 with fail
  have B2 := Aside0.mk (heap_alloc_new w (.cells #[.slice none 0 0, .int .i64 0] 24 (0, 0)))
  have hb_ := below_alloc (Below.refl w.heap.size w) (.cells #[.slice none 0 0, .int .i64 0] 24 (0, 0))
  have hs_ : (w.alloc (.cells #[.slice none 0 0, .int .i64 0] 24 (0, 0))).heap.size = w.heap.size + 1 := by simp
  generalize w.alloc (.cells #[.slice none 0 0, .int .i64 0] 24 (0, 0)) = w1 at B2 hb_ hs_ ⊢
  replace HB := Aside0.mk (below_step HB.out hb_)
  clear hb_
  clear hs_
  obtain ⟨g2, HG2'⟩ : ∃ g, Aside0 (w.heap.size = g) := ⟨_, ⟨rfl⟩⟩
  have HG2 : Aside0 (w.heap.size ≤ g2) := ⟨by rw [HG2'.out]; exact Nat.le_refl _⟩
  rw [HG2'.out] at B2 ⊢
  clear HG2'
  go_wp2_with fail
  refine (from_any A0 c0 l0 w1 (Kd.C_below HC.out HB.out) HY.out.2 HY.out.1).mono ?_
  rintro e_ w2 ⟨b, rfl, hr_, hb_⟩
  obtain ⟨B, HBB⟩ : ∃ B, Aside0 (w1.heap.size = B) := ⟨_, ⟨rfl⟩⟩
  rw [HBB.out] at hr_
  have HNB : Aside0 (w.heap.size ≤ b ∧ g2 < b) := ⟨by have h1 := hr_.1; have h2 := blk_lt B2.out; have := below_size HB.out; have := HBB.out; omega⟩
  have HR := Aside0.mk hr_
  replace B2 := Aside0.mk (blk_below B2.out hb_)
  replace HB := Aside0.mk (below_step HB.out hb_)
  clear hr_ hb_ HBB w1
  go_wp2_with fail
  refine (uint_some b l0 B w2 HR.out).mono ?_
  rintro e_ w3 ⟨he1, h1, h2⟩
  obtain ⟨pp, HPP⟩ : ∃ n, Aside0 ((rdU l0).1 = n) := ⟨_, ⟨rfl⟩⟩
  obtain ⟨er, HER⟩ : ∃ n, Aside0 ((rdU l0).2.1 = n) := ⟨_, ⟨rfl⟩⟩
  obtain ⟨r1, HR1⟩ : ∃ n, Aside0 ((rdU l0).2.2 = n) := ⟨_, ⟨rfl⟩⟩
  have HRG := Aside0.mk (rdU_range HR.out.byt)
  have HL1 := Aside0.mk (rdU_len l0)
  rw [HPP.out, HER.out] at he1
  rw [HR1.out] at h1 HL1
  rw [HPP.out] at HRG
  subst he1
  have n2 := HNB.out
  replace B2 := Aside0.mk (blk_grown B2.out h2 (by intro h; injection h with h; omega))
  replace HB := Aside0.mk (HB.out.grown h2 (below_size HB.out) (fun k hk => by injection hk with hk; omega))
  replace HR := Aside0.mk h1
  clear h1 h2 n2
  by_cases her : er = 0
  · have herb : (er != 0) = false := by simpa using her
    have herb2 : (er == 0) = true := by simpa using her
    have HG1 : Aside0 (ofT l0 = ofT2 (capV pp) r1) := ⟨by unfold ofT; rw [HER.out, HPP.out, HR1.out, if_neg (by simpa using her)]⟩
    clear her HER HR1 HPP
    go_wp2_with fail
    clear herb herb2
    refine (uint_some b r1 B w3 HR.out).mono ?_
    rintro e_ w4 ⟨he1, h1, h2⟩
    obtain ⟨mm, HMM⟩ : ∃ n, Aside0 ((rdU r1).1 = n) := ⟨_, ⟨rfl⟩⟩
    obtain ⟨er2, HER2⟩ : ∃ n, Aside0 ((rdU r1).2.1 = n) := ⟨_, ⟨rfl⟩⟩
    obtain ⟨r2, HR2⟩ : ∃ n, Aside0 ((rdU r1).2.2 = n) := ⟨_, ⟨rfl⟩⟩
    have HRG2 := Aside0.mk (rdU_range HR.out.byt)
    have HL2 := Aside0.mk (Nat.le_trans (rdU_len r1) HL1.out)
    rw [HMM.out, HER2.out] at he1
    rw [HR2.out] at h1 HL2
    rw [HMM.out] at HRG2
    subst he1
    have n2 := HNB.out
    replace B2 := Aside0.mk (blk_grown B2.out h2 (by intro h; injection h with h; omega))
    replace HB := Aside0.mk (HB.out.grown h2 (below_size HB.out) (fun k hk => by injection hk with hk; omega))
    replace HR := Aside0.mk h1
    clear h1 h2 n2 w3 HL1
    by_cases her : er2 = 0
    · have herb : (er2 != 0) = false := by simpa using her
      have herb2 : (er2 == 0) = true := by simpa using her
      by_cases hmm : 24 < mm
      · have h1 : decide (mm > 24) = true := decide_eq_true hmm
        have h1b : decide (24 < mm) = true := decide_eq_true hmm
        have HE : Aside0 (ofT l0 = ([], 0, 2)) := ⟨by rw [HG1.out]; unfold ofT2; rw [HER2.out, if_neg (by simpa using her), HMM.out, if_pos hmm]⟩
        clear her hmm
        have r0_ := (blk_cell B2.out 0).trans (rfl : _ = some ((.slice none 0 0) : Value))
        have r1_ := (blk_cell B2.out 1).trans (rfl : _ = some ((.int .i64 0) : Value))
        have rf0_ := blk_frozen B2.out 0
        have rf1_ := blk_frozen B2.out 1
        go_wp2_with fail
        have BZ := blk_put (blk_set B2.out 0 (.slice none 0 0)) 1 (.int .i64 0) (rfl : _ = (#[.slice none 0 0, .int .i64 0] : Array Value))
        have hgz : w4.grownBy ((w4.setCell ⟨g2, 0, none⟩ (.slice none 0 0)).setCell ⟨g2, 1, none⟩ (.int .i64 0)) (some g2) := grown_trans (grown_set w4 g2 0 (.slice none 0 0)) (grown_set _ g2 1 (.int .i64 0))
        clear r0_ r1_ rf0_ rf1_
        generalize ((w4.setCell ⟨g2, 0, none⟩ (.slice none 0 0)).setCell ⟨g2, 1, none⟩ (.int .i64 0)) = wz at BZ hgz ⊢
        have r0_ := (blk_cell BZ 0).trans (rfl : _ = some ((.slice none 0 0) : Value))
        have r1_ := (blk_cell BZ 1).trans (rfl : _ = some ((.int .i64 0) : Value))
        refine bodyPost_ret (v := .tuple #[.agg #[.slice none 0 0, .int .i64 0], .int .i64 2]) (by simp [results, Try.results17, go_sem, r0_, r1_]) rfl ?_
        have h1 := HQ.out.symm.trans (HE.out)
        injection h1 with e1 h1
        injection h1 with e2 e3
        subst e1 e2 e3
        exact ⟨_, rfl, Kd.R_nil _ _ _ _ _, HB.out.grown hgz (below_size HB.out) (fun k hk => by injection hk with hk; have := HG2.out; omega)⟩
      · have h1 : decide (mm > 24) = false := decide_eq_false hmm
        have h1b : decide (24 < mm) = false := decide_eq_false hmm
        obtain ⟨m, hm⟩ : ∃ m, (if 1000 < pp then (1000 : Int) else pp) = m := ⟨_, rfl⟩
        have HM : Aside0 (capV pp = m) := ⟨hm⟩
        have hw64 : wrap64 m = m := by have := HRG.out; unfold wrap64; split at hm <;> omega
        obtain ⟨K, hK⟩ : ∃ K : Nat, mm = (K : Int) := ⟨mm.toNat, by have := HRG2.out; omega⟩
        subst hK
        have HK24 : Aside0 (K ≤ 24) := ⟨by omega⟩
        have HG2_ : Aside0 (ofT l0 = ofT3 m (rdVs K r2)) := ⟨by rw [HG1.out, HM.out]; unfold ofT2; rw [HER2.out, if_neg (by simpa using her), HMM.out, if_neg hmm, HR2.out, Int.toNat_natCast]⟩
        clear her hmm HG1 HER2 HMM HR2
        have HGTW : Aside0 (w.heap.size ≤ w4.heap.size ∧ g2 < w4.heap.size ∧ b < w4.heap.size) := ⟨⟨below_size HB.out, blk_lt B2.out, HR.out.lt⟩⟩
        go_upto_region 11 with fail
        have BT := Aside0.mk (heap_alloc_new w4 (.cells #[.slice none 0 0, .int .i64 m] 24 (0, 0)))
        have hb_ := below_alloc (Below.refl w4.heap.size w4) (.cells #[.slice none 0 0, .int .i64 m] 24 (0, 0))
        have hs_ : (w4.alloc (.cells #[.slice none 0 0, .int .i64 m] 24 (0, 0))).heap.size = w4.heap.size + 1 := by simp
        generalize w4.alloc (.cells #[.slice none 0 0, .int .i64 m] 24 (0, 0)) = w5 at BT hb_ hs_ ⊢
        replace B2 := Aside0.mk (blk_below B2.out hb_)
        replace HB := Aside0.mk (below_step HB.out hb_)
        replace HR := Aside0.mk (HR.out.below hb_)
        clear hb_
        clear hs_ hm hw64 h1 h1b herb herb2
        obtain ⟨gt, HGT⟩ : ∃ g, Aside0 (w4.heap.size = g) := ⟨_, ⟨rfl⟩⟩
        rw [HGT.out] at BT ⊢
        obtain ⟨lo, HLO⟩ : ∃ lo, Aside0 (w5.heap.size = lo) := ⟨_, ⟨rfl⟩⟩
        have HLOW : Aside0 (b < lo ∧ g2 < lo ∧ gt < lo ∧ w.heap.size ≤ lo ∧ w.heap.size ≤ gt ∧ g2 ≠ gt ∧ b ≠ gt) := ⟨by
          have h1 := blk_lt B2.out
          have h2 := blk_lt BT.out
          have h3 := below_size HB.out
          have h4 := HR.out.lt
          have h5 := HLO.out
          have h6 := HGT.out
          have h7 := HGTW.out
          omega⟩
        obtain ⟨R, HRD⟩ : ∃ R, Aside0 (rdVs K r2 = R) := ⟨_, ⟨rfl⟩⟩
        rw [HRD.out] at HG2_
        clear HGT HGTW w4
        go_wp2_with fail
        go_loopw [41] (fun v41 wr => ∃ (i : Nat) (acc : List Vx) (xi : List Int) (A2 : Option Addr) (c2 : Nat), i ≤ K ∧ v41 = .int .u64 (i : Int) ∧ Aside0 (wr.heap[g2]? = some (.cells #[.slice none 0 0, .int .i64 0] 24 (0, 0))) ∧ Aside0 (wr.heap[gt]? = some (.cells #[.slice A2 acc.length c2, .int .i64 m] 24 (0, 0))) ∧ Aside0 (Below w.heap.size w wr) ∧ Aside0 (Rdr wr B b xi) ∧ Aside0 (lo ≤ wr.heap.size ∧ Kd.R k40 40 wr lo (fun _ => True) (.slice A2 acc.length c2) acc) ∧ Aside0 ((∀ v ∈ acc, Was v) ∧ acc.length = i ∧ xi.length ≤ l0.length ∧ R = aheadV acc (rdVs (K - i) xi))) (fun v41 _ => K - (intOf v41).toNat)
        case atStart => exact ⟨0, [], r2, none, 0, by omega, rfl, B2, BT, HB, HR, ⟨⟨by rw [HLO.out]; exact Nat.le_refl _, Kd.R_nil _ _ _ _ _⟩⟩, ⟨⟨fun x hx => (List.not_mem_nil hx).elim, rfl, HL2.out, by rw [Nat.sub_zero, aheadV_nil]; exact HRD.out.symm⟩⟩⟩
        case round =>
          clear B2 BT HB HR HLO HRD
          obtain ⟨i, acc, xi, A2, c2, hi, rfl, B2, BT, HB, HR, HROW, HST⟩ := hrel
          by_cases hlt : i < K
          · have h4 : decide ((i : Int) < (K : Int)) = true := by simp; omega
            have h4b : decide (i < K) = true := by simp; omega
            go_wp2_with fail
            refine (read_ok B b xi _ HR.out (by have := HST.out.2.2.1; have := HY.out.2; omega)).mono ?_
            rintro e_ w6 ⟨hgk, hp⟩
            clear h4 h4b
            obtain ⟨S, HS⟩ : ∃ S, Aside0 (wr.heap.size = S) := ⟨_, ⟨rfl⟩⟩
            have HSL : Aside0 (lo ≤ S) := ⟨by rw [← HS.out]; exact HROW.out.1⟩
            have low := HLOW.out
            have nb := HNB.out
            replace B2 := Aside0.mk (blk_grown B2.out hgk (by intro h; injection h with h; omega))
            replace BT := Aside0.mk (blk_grown BT.out hgk (by intro h; injection h with h; omega))
            replace HB := Aside0.mk (HB.out.grown hgk (below_size HB.out) (fun k hk => by injection hk with hk; omega))
            have HBQ : Aside0 (∀ j, (Value.slice A2 acc.length c2).ownBlock = some j → lo ≤ j ∧ j < S) := ⟨fun j hj => by have h := (Kd.R_bound HROW.out.2).1 j hj; rw [HS.out] at h; exact ⟨h.2.1, h.2.2.1⟩⟩
            have hrow6 := R_keep HROW.out.2 hgk low.1
            replace HROW : Aside0 (lo ≤ w6.heap.size ∧ Kd.R k40 40 w6 lo (fun _ => True) (.slice A2 acc.length c2) acc) := ⟨⟨Nat.le_trans HROW.out.1 hgk.size, hrow6⟩⟩
            have HSZ6 : Aside0 (S ≤ w6.heap.size) := ⟨by rw [← HS.out]; exact hgk.size⟩
            have HBX := Aside0.mk HR.out.byt
            rw [HS.out] at hp
            clear hgk HS low nb hrow6
            cases hg : rdV xi with
            | inl er3 =>
              rw [hg] at hp
              obtain ⟨hnz, k0, A1, n1, c1, k2, k3, A4, n4, c4, k5, rfl⟩ := hp
              have herb : (er3 != 0) = true := by simpa using hnz
              have HE : Aside0 (ofT l0 = ([], 0, er3)) := ⟨by
                rw [HG2_.out, HST.out.2.2.2, show K - i = K - i - 1 + 1 by omega, rdVs_bad hg]
                rfl⟩
              clear hg hnz HST HROW
              go_upto_region 14 with fail
              have B9 := Aside0.mk (heap_alloc_new w6 (.cells #[.int .i64 k0, .slice A1 n1 c1, .int .i64 k2, .int .i64 k3, .slice A4 n4 c4, .int .i64 k5] 40 (0, 0)))
              have hb_ := below_alloc (Below.refl w6.heap.size w6) (.cells #[.int .i64 k0, .slice A1 n1 c1, .int .i64 k2, .int .i64 k3, .slice A4 n4 c4, .int .i64 k5] 40 (0, 0))
              have hs_ : (w6.alloc (.cells #[.int .i64 k0, .slice A1 n1 c1, .int .i64 k2, .int .i64 k3, .slice A4 n4 c4, .int .i64 k5] 40 (0, 0))).heap.size = w6.heap.size + 1 := by simp
              generalize w6.alloc (.cells #[.int .i64 k0, .slice A1 n1 c1, .int .i64 k2, .int .i64 k3, .slice A4 n4 c4, .int .i64 k5] 40 (0, 0)) = w7 at B9 hb_ hs_ ⊢
              replace B2 := Aside0.mk (blk_below B2.out hb_)
              replace HB := Aside0.mk (below_step HB.out hb_)
              clear hb_
              clear hs_
              have r0_ := (blk_cell B2.out 0).trans (rfl : _ = some ((.slice none 0 0) : Value))
              have r1_ := (blk_cell B2.out 1).trans (rfl : _ = some ((.int .i64 0) : Value))
              have rf0_ := blk_frozen B2.out 0
              have rf1_ := blk_frozen B2.out 1
              go_wp2_with fail
              have BZ := blk_put (blk_set B2.out 0 (.slice none 0 0)) 1 (.int .i64 0) (rfl : _ = (#[.slice none 0 0, .int .i64 0] : Array Value))
              have hgz : w7.grownBy ((w7.setCell ⟨g2, 0, none⟩ (.slice none 0 0)).setCell ⟨g2, 1, none⟩ (.int .i64 0)) (some g2) := grown_trans (grown_set w7 g2 0 (.slice none 0 0)) (grown_set _ g2 1 (.int .i64 0))
              clear r0_ r1_ rf0_ rf1_
              generalize ((w7.setCell ⟨g2, 0, none⟩ (.slice none 0 0)).setCell ⟨g2, 1, none⟩ (.int .i64 0)) = wz at BZ hgz ⊢
              have r0_ := (blk_cell BZ 0).trans (rfl : _ = some ((.slice none 0 0) : Value))
              have r1_ := (blk_cell BZ 1).trans (rfl : _ = some ((.int .i64 0) : Value))
              refine bodyPost_ret (v := .tuple #[.agg #[.slice none 0 0, .int .i64 0], .int .i64 er3]) (by simp [results, Try.results17, go_sem, r0_, r1_]) rfl ?_
              have h1 := HQ.out.symm.trans (HE.out)
              injection h1 with e1 h1
              injection h1 with e2 e3
              subst e1 e2 e3
              exact ⟨_, rfl, Kd.R_nil _ _ _ _ _, HB.out.grown hgz (below_size HB.out) (fun k hk => by injection hk with hk; have := HG2.out; omega)⟩
            | inr q =>
              obtain ⟨v, r⟩ := q
              rw [hg] at hp
              obtain ⟨v1, v4, rfl, ho1, ho4, hr6⟩ := hp
              obtain ⟨A1, c1, rfl⟩ := Kd.R_slice ho1
              obtain ⟨A4, c4, rfl⟩ := Kd.R_slice ho4
              have HO1 := Aside0.mk ho1
              have HO4 := Aside0.mk ho4
              replace HR := Aside0.mk hr6
              have HLEN := Aside0.mk HST.out.2.1
              have HRN : Aside0 (R = aheadV (acc ++ [v]) (rdVs (K - (i + 1)) r)) := ⟨by
                rw [HST.out.2.2.2, show K - i = K - (i + 1) + 1 by omega]
                exact rdVs_good hg⟩
              have HWA : Aside0 (∀ u ∈ acc ++ [v], Was u) := ⟨fun u hu => by
                rcases List.mem_append.1 hu with hu | hu
                · exact HST.out.1 u hu
                · rw [List.mem_singleton.1 hu]; exact (rdV_is HBX.out hg).2.1⟩
              have HXL : Aside0 (r.length ≤ l0.length) := ⟨Nat.le_trans (rdV_len hg) HST.out.2.2.1⟩
              clear ho1 ho4 hr6 hg HST
              go_upto_region 14 with fail
              have B9 := Aside0.mk (heap_alloc_new w6 (.cells #[.int .i64 v.f0, .slice A1 v.f1.length c1, .int .i64 v.f2.f0, .int .i64 v.f2.f1, .slice A4 v.f2.f2.length c4, .int .i64 v.f3] 40 (0, 0)))
              have hb_ := below_alloc (Below.refl w6.heap.size w6) (.cells #[.int .i64 v.f0, .slice A1 v.f1.length c1, .int .i64 v.f2.f0, .int .i64 v.f2.f1, .slice A4 v.f2.f2.length c4, .int .i64 v.f3] 40 (0, 0))
              have hs_ : (w6.alloc (.cells #[.int .i64 v.f0, .slice A1 v.f1.length c1, .int .i64 v.f2.f0, .int .i64 v.f2.f1, .slice A4 v.f2.f2.length c4, .int .i64 v.f3] 40 (0, 0))).heap.size = w6.heap.size + 1 := by simp
              generalize w6.alloc (.cells #[.int .i64 v.f0, .slice A1 v.f1.length c1, .int .i64 v.f2.f0, .int .i64 v.f2.f1, .slice A4 v.f2.f2.length c4, .int .i64 v.f3] 40 (0, 0)) = w7 at B9 hb_ hs_ ⊢
              replace B2 := Aside0.mk (blk_below B2.out hb_)
              replace BT := Aside0.mk (blk_below BT.out hb_)
              replace HB := Aside0.mk (below_step HB.out hb_)
              replace HR := Aside0.mk (HR.out.below hb_)
              replace HO1 := Aside0.mk (Kd.R_below HO1.out hb_)
              replace HO4 := Aside0.mk (Kd.R_below HO4.out hb_)
              have hrow7 := Kd.R_below HROW.out.2 hb_
              have HLO7 : Aside0 (lo ≤ w7.heap.size) := ⟨Nat.le_trans HROW.out.1 hb_.size⟩
              replace HROW := Aside0.mk hrow7
              clear hb_ hrow7
              obtain ⟨g9, HG9⟩ : ∃ g, Aside0 (w6.heap.size = g) := ⟨_, ⟨rfl⟩⟩
              rw [HG9.out] at B9 ⊢
              have HS7 : Aside0 (S ≤ w7.heap.size) := ⟨by have := HSZ6.out; omega⟩
              clear hs_
              go_upto_region 16 with fail
              have k0_ := (blk_cell B9.out 0).trans (rfl : _ = some (.int .i64 v.f0 : Value))
              have k1_ := (blk_cell B9.out 1).trans (rfl : _ = some (.slice A1 v.f1.length c1 : Value))
              have k2_ := (blk_cell B9.out 2).trans (rfl : _ = some (.int .i64 v.f2.f0 : Value))
              have k3_ := (blk_cell B9.out 3).trans (rfl : _ = some (.int .i64 v.f2.f1 : Value))
              have k4_ := (blk_cell B9.out 4).trans (rfl : _ = some (.slice A4 v.f2.f2.length c4 : Value))
              have k5_ := (blk_cell B9.out 5).trans (rfl : _ = some (.int .i64 v.f3 : Value))
              have x0_ := (blk_cell BT.out 0).trans (rfl : _ = some (.slice A2 acc.length c2 : Value))
              have xf0_ := blk_frozen BT.out 0
              have HKM : Aside0 (Kd.M k40 w7 lo (fun j => S ≤ j) v [.int .i64 v.f0, .slice A1 v.f1.length c1, .int .i64 v.f2.f0, .int .i64 v.f2.f1, .slice A4 v.f2.f2.length c4, .int .i64 v.f3]) := ⟨k40_mkM w7 lo _ v (Kd.R_lower (Kd.R_mono (Kd.R_bound HO1.out) (fun j hj => hj.2.1)) HSL.out) (Kd.R_lower (Kd.R_mono (Kd.R_bound HO4.out) (fun j hj => hj.2.1)) HSL.out)⟩
              have HOKP : Aside0 (∀ j, S ≤ j → True ∧ some j ≠ (Value.slice A2 acc.length c2).ownBlock) := ⟨fun j hj => ⟨trivial, fun h => by have := (HBQ.out j h.symm).2; omega⟩⟩
              clear HS7
              go_wp2_with ((with_reducible refine gate_builtin (b := .append) (xs := #[.tmp 53, .tmp 55]) rfl ?_); at_builtin; refine Kd.R_append k40 (w0 := w7) lo rfl (.tmp 53) (.tmp 55) 22 40 (.agg #[.int .i64 0, .slice none 0 0, .int .i64 0, .int .i64 0, .slice none 0 0, .int .i64 0]) 80 rfl Try.underlying22 infoV rfl (by decide) (by omega) (.slice A2 acc.length c2) acc v [.int .i64 v.f0, .slice A1 v.f1.length c1, .int .i64 v.f2.f0, .int .i64 v.f2.f1, .slice A4 v.f2.f2.length c4, .int .i64 v.f3] (fun _ => True) (fun j => S ≤ j) rfl rfl ?aP ?aK (fun _ _ => trivial) ?aO ?aB ?aS ?aL ?_; (case aP => exact HKM.out); (case aK => exact HOKP.out); (case aO => exact HROW.out); (case aB => exact below_any lo w7); (case aS => exact HLO7.out); (case aL => have := HLEN.out; have := HK24.out; omega); intro v56 w8 ho_ hb_ hg_ hat_; obtain ⟨acc2, HAC⟩ : ∃ y, Aside0 (acc ++ [v] = y) := ⟨_, ⟨rfl⟩⟩; rw [HAC.out] at ho_; obtain ⟨A8, c8, rfl⟩ := Kd.R_slice ho_; have HR8 := Aside0.mk ho_; have HS8 : Aside0 (lo ≤ w8.heap.size) := ⟨Nat.le_trans HLO7.out hg_.size⟩; replace B2 := Aside0.mk (blk_grown B2.out hg_ (fun h => by have := (HBQ.out g2 h.symm).1; have := HLOW.out; omega)); replace BT := Aside0.mk (blk_grown BT.out hg_ (fun h => by have := (HBQ.out gt h.symm).1; have := HLOW.out; omega)); replace HB := Aside0.mk (HB.out.grown hg_ (below_size HB.out) (fun k hk => by have := (HBQ.out k (by first | exact hk | exact hk.symm)).1; have := HLOW.out; omega)); replace HR := Aside0.mk (rdr_rowV HR.out HROW.out (by have := HLOW.out; omega) hg_); have y0_ := blk_cell BT.out 0; have yf0_ := blk_frozen BT.out 0; clear ho_ hb_ hg_ hat_ k0_ k1_ k2_ k3_ k4_ k5_ x0_ xf0_ HKM HOKP HROW)
              have low := HLOW.out
              have hset := grown_set w8 gt 0 (.slice A8 acc2.length c8)
              have hrd := rdr_turn HR.out (by omega : b ≠ gt) BT.out (by decide) hset
              have hbx := blk_put BT.out 0 (.slice A8 acc2.length c8) (rfl : _ = (#[.slice A8 acc2.length c8, .int .i64 m] : Array Value))
              replace B2 := Aside0.mk (blk_grown B2.out hset (by intro h; injection h with h; omega))
              replace HB := Aside0.mk (HB.out.grown hset (below_size HB.out) (fun k hk => by injection hk with hk; omega))
              replace HR := Aside0.mk hrd
              replace BT := Aside0.mk hbx
              have hrow9 := R_keep HR8.out hset low.2.2.1
              have HROW9 : Aside0 (lo ≤ (w8.setCell ⟨gt, 0, none⟩ (.slice A8 acc2.length c8)).heap.size ∧ Kd.R k40 40 (w8.setCell ⟨gt, 0, none⟩ (.slice A8 acc2.length c8)) lo (fun _ => True) (.slice A8 acc2.length c8) acc2) := ⟨⟨Nat.le_trans HS8.out hset.size, hrow9⟩⟩
              clear hset hrd hbx hrow9 low
              generalize w8.setCell ⟨gt, 0, none⟩ (.slice A8 acc2.length c8) = w9 at B2 HR BT HB HROW9 ⊢
              have hwz : IntKind.u64.wrap ((i : Int) + 1) = ((i + 1 : Nat) : Int) := by rw [wrap_u64 (by omega) (by have := HK24.out; omega)]; omega
              go_roundw
              case rel => exact ⟨i + 1, acc2, r, A8, c8, by omega, by rw [hwz], B2, BT, HB, HR, HROW9, ⟨⟨by rw [← HAC.out]; exact HWA.out, by have := HLEN.out; rw [← HAC.out, List.length_append, List.length_singleton]; omega, HXL.out, by rw [← HAC.out]; exact HRN.out⟩⟩⟩
              case measure => simp [intOf, hwz]; omega
          · obtain rfl : K = i := by omega
            have h4 : decide ((K : Int) < (K : Int)) = false := by simp
            have HG3 : Aside0 (ofT l0 = ofT3 m (.inr (acc, xi))) := ⟨by
              rw [HG2_.out, HST.out.2.2.2, Nat.sub_self]
              simp [rdVs, aheadV]⟩
            have HOKV : Aside0 (okV acc = true) := ⟨okV_was HST.out.1⟩
            have HLEN := Aside0.mk HST.out.2.1
            have x0_ := (blk_cell BT.out 0).trans (rfl : _ = some (.slice A2 acc.length c2 : Value))
            have x1_ := (blk_cell BT.out 1).trans (rfl : _ = some (.int .i64 m : Value))
            clear HG2_ HST
            go_wp2_with fail
            refine (left_some b xi B wr HR.out).mono ?_
            rintro e_ w6 ⟨rfl, rfl⟩
            clear h4
            by_cases hrl : 0 < xi.length
            · have h1 : decide ((xi.length : Int) > 0) = true := decide_eq_true (by omega)
              have h1b : decide ((0 : Int) < (xi.length : Int)) = true := decide_eq_true (by omega)
              have h1c : decide (0 < xi.length) = true := decide_eq_true hrl
              have HE : Aside0 (ofT l0 = ([], 0, 5)) := ⟨by rw [HG3.out]; unfold ofT3; simp only; rw [if_pos hrl]⟩
              clear hrl
              have r0_ := (blk_cell B2.out 0).trans (rfl : _ = some ((.slice none 0 0) : Value))
              have r1_ := (blk_cell B2.out 1).trans (rfl : _ = some ((.int .i64 0) : Value))
              have rf0_ := blk_frozen B2.out 0
              have rf1_ := blk_frozen B2.out 1
              go_wp2_with fail
              have BZ := blk_put (blk_set B2.out 0 (.slice none 0 0)) 1 (.int .i64 0) (rfl : _ = (#[.slice none 0 0, .int .i64 0] : Array Value))
              have hgz : wr.grownBy ((wr.setCell ⟨g2, 0, none⟩ (.slice none 0 0)).setCell ⟨g2, 1, none⟩ (.int .i64 0)) (some g2) := grown_trans (grown_set wr g2 0 (.slice none 0 0)) (grown_set _ g2 1 (.int .i64 0))
              clear r0_ r1_ rf0_ rf1_
              generalize ((wr.setCell ⟨g2, 0, none⟩ (.slice none 0 0)).setCell ⟨g2, 1, none⟩ (.int .i64 0)) = wz at BZ hgz ⊢
              have r0_ := (blk_cell BZ 0).trans (rfl : _ = some ((.slice none 0 0) : Value))
              have r1_ := (blk_cell BZ 1).trans (rfl : _ = some ((.int .i64 0) : Value))
              refine bodyPost_ret (v := .tuple #[.agg #[.slice none 0 0, .int .i64 0], .int .i64 5]) (by simp [results, Try.results17, go_sem, r0_, r1_]) rfl ?_
              have h1 := HQ.out.symm.trans (HE.out)
              injection h1 with e1 h1
              injection h1 with e2 e3
              subst e1 e2 e3
              exact ⟨_, rfl, Kd.R_nil _ _ _ _ _, HB.out.grown hgz (below_size HB.out) (fun k hk => by injection hk with hk; have := HG2.out; omega)⟩
            · have h1 : decide ((xi.length : Int) > 0) = false := decide_eq_false (by omega)
              have h1b : decide ((0 : Int) < (xi.length : Int)) = false := decide_eq_false (by omega)
              have h1c : decide (0 < xi.length) = false := decide_eq_false hrl
              have HG4 : Aside0 (ofT l0 = if (checkOf acc m).2 ≠ 0 then ([], 0, (checkOf acc m).2) else (acc, m, 0)) := ⟨by rw [HG3.out]; unfold ofT3; simp only; rw [if_neg hrl]⟩
              clear hrl HG3
              go_wp2_with fail
              refine (check_ok A2 c2 acc m wr (Kd.R_reads' HROW.out.2).2.2 HOKV.out).mono ?_
              rintro e_ w6 ⟨rfl, hb_⟩
              obtain ⟨⟨e4, e5⟩, HCK⟩ : ∃ q, Aside0 (checkOf acc m = q) := ⟨_, ⟨rfl⟩⟩
              rw [HCK.out] at HG4 ⊢
              simp only at HG4 ⊢
              replace B2 := Aside0.mk (blk_below B2.out hb_)
              replace BT := Aside0.mk (blk_below BT.out hb_)
              replace HB := Aside0.mk (below_step HB.out hb_)
              have HROW6 := Aside0.mk (Kd.R_below HROW.out.2 hb_)
              clear hb_ x0_ x1_ h1 h1b h1c HROW
              have x0_ := (blk_cell BT.out 0).trans (rfl : _ = some (.slice A2 acc.length c2 : Value))
              have x1_ := (blk_cell BT.out 1).trans (rfl : _ = some (.int .i64 m : Value))
              by_cases he5 : e5 = 0
              · have herb : (e5 != 0) = false := by simpa using he5
                have HE : Aside0 (ofT l0 = (acc, m, 0)) := ⟨by rw [HG4.out, if_neg (by simpa using he5)]⟩
                clear he5
                have r0_ := (blk_cell B2.out 0).trans (rfl : _ = some ((.slice none 0 0) : Value))
                have r1_ := (blk_cell B2.out 1).trans (rfl : _ = some ((.int .i64 0) : Value))
                have rf0_ := blk_frozen B2.out 0
                have rf1_ := blk_frozen B2.out 1
                go_wp2_with fail
                have BZ := blk_put (blk_set B2.out 0 (.slice A2 acc.length c2)) 1 (.int .i64 m) (rfl : _ = (#[.slice A2 acc.length c2, .int .i64 m] : Array Value))
                have hgz : w6.grownBy ((w6.setCell ⟨g2, 0, none⟩ (.slice A2 acc.length c2)).setCell ⟨g2, 1, none⟩ (.int .i64 m)) (some g2) := grown_trans (grown_set w6 g2 0 (.slice A2 acc.length c2)) (grown_set _ g2 1 (.int .i64 m))
                clear r0_ r1_ rf0_ rf1_
                generalize ((w6.setCell ⟨g2, 0, none⟩ (.slice A2 acc.length c2)).setCell ⟨g2, 1, none⟩ (.int .i64 m)) = wz at BZ hgz ⊢
                have r0_ := (blk_cell BZ 0).trans (rfl : _ = some ((.slice A2 acc.length c2) : Value))
                have r1_ := (blk_cell BZ 1).trans (rfl : _ = some ((.int .i64 m) : Value))
                refine bodyPost_ret (v := .tuple #[.agg #[.slice A2 acc.length c2, .int .i64 m], .int .i64 0]) (by simp [results, Try.results17, go_sem, r0_, r1_]) rfl ?_
                have h1 := HQ.out.symm.trans (HE.out)
                injection h1 with e1 h1
                injection h1 with e2 e3
                subst e1 e2 e3
                have low := HLOW.out
                exact ⟨_, rfl, Kd.R_lower (R_keep HROW6.out hgz low.2.1) low.2.2.2.1, HB.out.grown hgz (below_size HB.out) (fun k hk => by injection hk with hk; have := HG2.out; omega)⟩
              · have herb : (e5 != 0) = true := by simpa using he5
                have HE : Aside0 (ofT l0 = ([], 0, e5)) := ⟨by rw [HG4.out, if_pos he5]⟩
                clear he5
                have r0_ := (blk_cell B2.out 0).trans (rfl : _ = some ((.slice none 0 0) : Value))
                have r1_ := (blk_cell B2.out 1).trans (rfl : _ = some ((.int .i64 0) : Value))
                have rf0_ := blk_frozen B2.out 0
                have rf1_ := blk_frozen B2.out 1
                go_wp2_with fail
                have BZ := blk_put (blk_set B2.out 0 (.slice none 0 0)) 1 (.int .i64 0) (rfl : _ = (#[.slice none 0 0, .int .i64 0] : Array Value))
                have hgz : w6.grownBy ((w6.setCell ⟨g2, 0, none⟩ (.slice none 0 0)).setCell ⟨g2, 1, none⟩ (.int .i64 0)) (some g2) := grown_trans (grown_set w6 g2 0 (.slice none 0 0)) (grown_set _ g2 1 (.int .i64 0))
                clear r0_ r1_ rf0_ rf1_
                generalize ((w6.setCell ⟨g2, 0, none⟩ (.slice none 0 0)).setCell ⟨g2, 1, none⟩ (.int .i64 0)) = wz at BZ hgz ⊢
                have r0_ := (blk_cell BZ 0).trans (rfl : _ = some ((.slice none 0 0) : Value))
                have r1_ := (blk_cell BZ 1).trans (rfl : _ = some ((.int .i64 0) : Value))
                refine bodyPost_ret (v := .tuple #[.agg #[.slice none 0 0, .int .i64 0], .int .i64 e5]) (by simp [results, Try.results17, go_sem, r0_, r1_]) rfl ?_
                have h1 := HQ.out.symm.trans (HE.out)
                injection h1 with e1 h1
                injection h1 with e2 e3
                subst e1 e2 e3
                exact ⟨_, rfl, Kd.R_nil _ _ _ _ _, HB.out.grown hgz (below_size HB.out) (fun k hk => by injection hk with hk; have := HG2.out; omega)⟩
    · have herb : (er2 != 0) = true := by simpa using her
      have herb2 : (er2 == 0) = false := by simpa using her
      have HE : Aside0 (ofT l0 = ([], 0, er2)) := ⟨by rw [HG1.out]; unfold ofT2; rw [HER2.out, if_pos her]⟩
      clear her
      have r0_ := (blk_cell B2.out 0).trans (rfl : _ = some ((.slice none 0 0) : Value))
      have r1_ := (blk_cell B2.out 1).trans (rfl : _ = some ((.int .i64 0) : Value))
      have rf0_ := blk_frozen B2.out 0
      have rf1_ := blk_frozen B2.out 1
      go_wp2_with fail
      have BZ := blk_put (blk_set B2.out 0 (.slice none 0 0)) 1 (.int .i64 0) (rfl : _ = (#[.slice none 0 0, .int .i64 0] : Array Value))
      have hgz : w4.grownBy ((w4.setCell ⟨g2, 0, none⟩ (.slice none 0 0)).setCell ⟨g2, 1, none⟩ (.int .i64 0)) (some g2) := grown_trans (grown_set w4 g2 0 (.slice none 0 0)) (grown_set _ g2 1 (.int .i64 0))
      clear r0_ r1_ rf0_ rf1_
      generalize ((w4.setCell ⟨g2, 0, none⟩ (.slice none 0 0)).setCell ⟨g2, 1, none⟩ (.int .i64 0)) = wz at BZ hgz ⊢
      have r0_ := (blk_cell BZ 0).trans (rfl : _ = some ((.slice none 0 0) : Value))
      have r1_ := (blk_cell BZ 1).trans (rfl : _ = some ((.int .i64 0) : Value))
      refine bodyPost_ret (v := .tuple #[.agg #[.slice none 0 0, .int .i64 0], .int .i64 er2]) (by simp [results, Try.results17, go_sem, r0_, r1_]) rfl ?_
      have h1 := HQ.out.symm.trans (HE.out)
      injection h1 with e1 h1
      injection h1 with e2 e3
      subst e1 e2 e3
      exact ⟨_, rfl, Kd.R_nil _ _ _ _ _, HB.out.grown hgz (below_size HB.out) (fun k hk => by injection hk with hk; have := HG2.out; omega)⟩
  · have herb : (er != 0) = true := by simpa using her
    have herb2 : (er == 0) = false := by simpa using her
    have HE : Aside0 (ofT l0 = ([], 0, er)) := ⟨by unfold ofT; rw [HER.out, if_pos her]⟩
    clear her
    have r0_ := (blk_cell B2.out 0).trans (rfl : _ = some ((.slice none 0 0) : Value))
    have r1_ := (blk_cell B2.out 1).trans (rfl : _ = some ((.int .i64 0) : Value))
    have rf0_ := blk_frozen B2.out 0
    have rf1_ := blk_frozen B2.out 1
    go_wp2_with fail
    have BZ := blk_put (blk_set B2.out 0 (.slice none 0 0)) 1 (.int .i64 0) (rfl : _ = (#[.slice none 0 0, .int .i64 0] : Array Value))
    have hgz : w3.grownBy ((w3.setCell ⟨g2, 0, none⟩ (.slice none 0 0)).setCell ⟨g2, 1, none⟩ (.int .i64 0)) (some g2) := grown_trans (grown_set w3 g2 0 (.slice none 0 0)) (grown_set _ g2 1 (.int .i64 0))
    clear r0_ r1_ rf0_ rf1_
    generalize ((w3.setCell ⟨g2, 0, none⟩ (.slice none 0 0)).setCell ⟨g2, 1, none⟩ (.int .i64 0)) = wz at BZ hgz ⊢
    have r0_ := (blk_cell BZ 0).trans (rfl : _ = some ((.slice none 0 0) : Value))
    have r1_ := (blk_cell BZ 1).trans (rfl : _ = some ((.int .i64 0) : Value))
    refine bodyPost_ret (v := .tuple #[.agg #[.slice none 0 0, .int .i64 0], .int .i64 er]) (by simp [results, Try.results17, go_sem, r0_, r1_]) rfl ?_
    have h1 := HQ.out.symm.trans (HE.out)
    injection h1 with e1 h1
    injection h1 with e2 e3
    subst e1 e2 e3
    exact ⟨_, rfl, Kd.R_nil _ _ _ _ _, HB.out.grown hgz (below_size HB.out) (fun k hk => by injection hk with hk; have := HG2.out; omega)⟩
end Go.Proofs.Yteanncfmaomhaaa.Ex
