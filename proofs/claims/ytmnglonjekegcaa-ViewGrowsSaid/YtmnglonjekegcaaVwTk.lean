/- (c11) state.task. -/
import Derived.Test.YtmnglonjekegcaaVwPut
namespace Go.Proofs.Ytmnglonjekegcaa.Vw
open Go Go.RowKit Go.Maps Go.Proofs.Ytmnglonjekegcaa.Mk Go.Proofs.Ytmnglonjekegcaa.Rp Go.Proofs.YtmnglonjekegcaaW.PrintWords Go.Proofs.YtmnglonjekegcaaW.PrintLast Go.Proofs.YtmnglonjekegcaaW.PrintMore Go.Proofs.Ytmnglonjekegcaa.Rw Go.Proofs.Ytmnglonjekegcaa.Ow Go.Proofs.Ytmnglonjekegcaa.Mono
set_option linter.unusedVariables false
set_option linter.unusedSimpArgs false
set_option maxRecDepth 100000
theorem eg_pt (o : Option Nat) (w : World) (x y : Operand) : (eqGuard .eql 64 x y (pv o) (.pointer none)).run Try.prog w = .ok () w := by cases o <;> rfl
theorem eq_pt (o : Option Nat) (w : World) : (binOp .eql 64 (pv o) (.pointer none)).run Try.prog w = .ok (.bool o.isNone) w := by cases o <;> rfl
/-- The task that an entry names is there. -/
def TkAt (w : World) (base bs : Nat) (M : List LE) (T T' : List TE) (k : Int) (i : Nat) (e : TE) : Prop := VS w base bs M T' ∧ T'.map TE.s = ensT (T.map TE.s) k ∧ T'[i]? = some e ∧ e.t.f0 = k
set_option maxHeartbeats 4000000 in
theorem task_ok (base bs : Nat) (k : Int) (w0 w : World) (M : List LE) (T : List TE) (hv : VS w base bs M T) (hB : Below base w0 w) (hbase : base ≤ w.heap.size) (hwf : (Lit.int .i64 k).wf = true) (hM : T.length < 1000000) :
    Calls Try.prog 34 #[.pointer (some ⟨bs, 0, none⟩), .int .i64 k] w fun e w' => ∃ T' i te, e = .returned (.pointer (some ⟨te.g, 0, none⟩)) ∧ Below base w0 w' ∧ base ≤ w'.heap.size ∧ KeepX (fun _ => False) w w' ∧ TkAt w' base bs M T T' k i te := by
  obtain ⟨⟨bl, bt, hst, hL, hT, hne⟩, hbb⟩ := hv
  have HWF := Aside0.mk hwf
  have HBS := Aside0.mk hbase
  have HBB := Aside0.mk hbb
  have HB := Aside0.mk hB
  have HLL0 := Aside0.mk hM
  have HNE := Aside0.mk hne
  have HST := Aside0.mk hst
  have HL := Aside0.mk hL
  have HT := Aside0.mk hT
  clear hwf hbase hbb hB hM hne hst hL hT
  obtain ⟨o, ho⟩ := lk_nat (L := T.map fun e => (e.t.f0, (e.g : Int))) (fun p hp => by obtain ⟨e, _, rfl⟩ := List.mem_map.1 hp; exact Int.natCast_nonneg _) k
  have HLK := Aside0.mk ho
  clear ho
  have heq : ∀ w, (binOp .eql 64 (pv o) (.pointer none)).run Try.prog w = .ok (.bool o.isNone) w := fun w => eq_pt o w
  have hgq : ∀ w x y, (eqGuard .eql 64 x y (pv o) (.pointer none)).run Try.prog w = .ok () w := fun w x y => eg_pt o w x y
  have l_ := HT.out.mp.atT HWF.out HLK.out
  obtain ⟨vp, HVP⟩ : ∃ vp, Aside0 (pv o = vp) := ⟨_, ⟨rfl⟩⟩
  obtain ⟨bq, HBQ⟩ : ∃ bq, Aside0 (o.isNone = bq) := ⟨_, ⟨rfl⟩⟩
  simp only [HVP.out, HBQ.out] at heq hgq l_
  have c_ := (blk_cell HST.out 1).trans (rfl : _ = some (.map (some bt) : Value))
  go_enter Try.func34, Try.ntmps34
  go_upto_if 13 with fail
  clear heq hgq l_ c_
  go_cut [5] (fun v5 wc => ∃ (T2 : List TE) (i : Nat) (e : TE), v5 = .pointer (some ⟨e.g, 0, none⟩) ∧ Below base w0 wc ∧ base ≤ wc.heap.size ∧ KeepX (fun _ => False) w wc ∧ TkAt wc base bs M T T2 k i e)
  case first =>
    cases o with
    | some g =>
      obtain ⟨i, e, hi, hk, hg⟩ := lkT_at HLK.out
      obtain rfl : false = bq := HBQ.out
      have eg : g = e.g := by have h2 : (g : Int) = (e.g : Int) := hg; omega
      subst eg
      go_wp2_with fail
      go_meet
      case rel => exact ⟨T, i, e, HVP.out.symm, HB.out, HBS.out, KeepX.refl _ _, ⟨⟨bl, bt, HST.out, HL.out, HT.out, HNE.out⟩, HBB.out⟩, (ensT_old hi hk).symm, hi, hk⟩
    | none =>
      obtain rfl : true = bq := HBQ.out
      obtain rfl : .pointer none = vp := HVP.out
      have HCb := Aside0.mk trivial
      go_upto_region 4 with fail
      have HXn := Aside0.mk (heap_alloc_new w (.cells #[.int .i64 k, .int .i64 0, .int .i64 0, .slice none 0 0, .slice none 0 0, .int .i64 0, .slice none 0 0] 67))
      have hb_ := below_alloc (Below.refl w.heap.size w) (.cells #[.int .i64 k, .int .i64 0, .int .i64 0, .slice none 0 0, .slice none 0 0, .int .i64 0, .slice none 0 0] 67)
      have hs_ : (w.alloc (.cells #[.int .i64 k, .int .i64 0, .int .i64 0, .slice none 0 0, .slice none 0 0, .int .i64 0, .slice none 0 0] 67)).heap.size = w.heap.size + 1 := by simp
      generalize w.alloc (.cells #[.int .i64 k, .int .i64 0, .int .i64 0, .slice none 0 0, .slice none 0 0, .int .i64 0, .slice none 0 0] 67) = wb at HXn hb_ hs_ ⊢
      replace HST := Aside0.mk (blk_below HST.out hb_)
      replace HL := Aside0.mk (HL.out.below hb_)
      replace HT := Aside0.mk (HT.out.below hb_)
      replace HB := Aside0.mk (below_on HB.out HBS.out hb_)
      replace HCb := Aside0.mk ((KeepX.refl (fun _ => False) w).below hb_)
      clear hb_
      clear hs_
      obtain ⟨g, HG⟩ : ∃ g, Aside0 (w.heap.size = g) := ⟨_, ⟨rfl⟩⟩
      rw [HG.out] at HXn ⊢
      have HGB : Aside0 (base ≤ g) := ⟨by rw [← HG.out]; exact HBS.out⟩
      replace HBS := Aside0.mk (Nat.le_trans HBS.out (by have := blk_lt HXn.out; rw [HG.out]; omega : w.heap.size ≤ wb.heap.size))
      have HNO : Aside0 (lk (T.map fun e => (e.t.f0, (e.g : Int))) k = none) := ⟨HLK.out⟩
      have HNI := Aside0.mk (lkT_no HNO.out)
      have HLL : Aside0 ((T.map fun e => (e.t.f0, (e.g : Int))).length < 1000000) := ⟨by rw [List.length_map]; exact HLL0.out⟩
      obtain ⟨wd, hrun_, hm_, hg_⟩ := MapP.putT HT.out.mp HWF.out HNO.out g HLL.out
      have hNEW := task_new (k := k) (g := g) HST.out HL.out HT.out HNE.out HBB.out HNI.out HWF.out HXn.out HGB.out hm_ hg_
      have HE := Aside0.mk (Chg.below HB.out hNEW.2.1 HBS.out (fun j hj => by rw [hj]; exact HT.out.bb))
      have HSe := Aside0.mk (Nat.le_trans HBS.out hg_.size)
      have HCe := Aside0.mk (HCb.out.trans hNEW.2.2)
      have HNEW := Aside0.mk hNEW
      have HRUN := Aside0.mk hrun_
      have c_ := (blk_cell HST.out 1).trans (rfl : _ = some (.map (some bt) : Value))
      clear hrun_ hm_ hg_ hNEW
      go_wp2_with (at_mapUpdate; refine list_upd rfl rfl _ _ _ _ rfl HRUN.out ?_)
      go_meet
      case rel => exact ⟨T ++ [newE k g], T.length, newE k g, rfl, HE.out, HSe.out, HCe.out, HNEW.out.1, (ensT_new HNI.out).symm, by rw [List.getElem?_append_right (Nat.le_refl _), Nat.sub_self]; rfl, rfl⟩
  case rest =>
    clear HST HL HT HB HBS HLK HVP HBQ HLL0
    obtain ⟨T2, i, e, rfl, hB, hbs, hc, ht⟩ := hcut
    have HB := Aside0.mk hB
    have HBS := Aside0.mk hbs
    have HC := Aside0.mk hc
    have HT := Aside0.mk ht
    clear hB hbs hc ht
    go_wp2_with fail
    go_ret
    exact ⟨T2, i, e, rfl, HB.out, HBS.out, HC.out, HT.out⟩
end Go.Proofs.Ytmnglonjekegcaa.Vw
