/- The statement RecFences. -/
import Derived.Test.YtedbgkbjbfdnlaaRcW
import Derived.Test.YtedbgkbjbfdnlaaRcKinds
import Derived.Laws.IdiomArrays
import Derived.Lib.Bytes
namespace Go.Proofs.Ytedbgkbjbfdnlaa.Opn
open Go Go.RowKit
theorem okWide_array {P : Program} {w : World} {base : Nat} {t e : TypeId} {n : Nat} {v : Value} (ht : P.underlying t = some (.array n e)) (h : Value.okWide P w .any base t v) : ∃ cs, v = .agg cs ∧ cs.size = P.cellsOf t := by
  simp only [Value.okWide, ht] at h
  obtain ⟨cs, h1, h2, _⟩ := h
  exact ⟨cs, h1, h2⟩
end Go.Proofs.Ytedbgkbjbfdnlaa.Opn
namespace Go.Proofs.Ytedbgkbjbfdnlaa.Rc
open Go Go.RowKit Go.Proofs.YtedbgkbjbfdnlaaW.PrintWords Go.Proofs.YtedbgkbjbfdnlaaW.PrintLast Go.Proofs.YtedbgkbjbfdnlaaW.PrintMore Go.Proofs.Ytedbgkbjbfdnlaa.Pk
set_option linter.unusedVariables false
set_option linter.unusedSimpArgs false
theorem open_three {H : Type} {enc : TypeId × Value → H} {P : Program} {t e : TypeId} {k : IntKind} (ht : P.underlying t = some (.array 3 e)) (he : P.underlying e = some (.int k)) (hce : P.cellsOf e = 1) (hct : P.cellsOf t = 3) {w : World} {base : Nat} {sp : Nat → Bool} {held : Bool} {cs : Array Value} {x : DataW H} {ps : List MemPlace} (hs : cs.size = P.cellsOf t)
    (h : DataW.Trod enc P w base sp held t (.agg cs) x ps) : ∃ a b c : Int, cs = #[.int k a, .int k b, .int k c] ∧ (Lit.int k a).wf = true ∧ (Lit.int k b).wf = true ∧ (Lit.int k c).wf = true := by
  obtain ⟨fuel, hf⟩ := h
  rw [hct] at hs
  obtain ⟨l⟩ := cs
  match l, hs with
  | [c0, c1, c2], _ =>
    obtain ⟨y0, y1, y2, n, _, h0, h1, h2⟩ := Go.ChangeShapes.trod_array3 ht hce hf
    obtain ⟨a, ea, _, wa⟩ := DataW.trod_int he h0
    obtain ⟨b, eb, _, wb⟩ := DataW.trod_int he h1
    obtain ⟨c, ec, _, wc⟩ := DataW.trod_int he h2
    injection ea with ea
    injection eb with eb
    injection ec with ec
    exact ⟨a, b, c, by rw [ea, eb, ec], wa, wb, wc⟩
theorem wf_u16 {n : Int} (h : (Lit.int .u16 n).wf = true) : 0 ≤ n ∧ n < 65536 := by
  simp [Lit.wf, IntKind.min, IntKind.max, IntKind.bits, IntKind.signed] at h
  omega
theorem wf_u8 {n : Int} (h : (Lit.int .u8 n).wf = true) : 0 ≤ n ∧ n < 256 := by
  simp [Lit.wf, IntKind.min, IntKind.max, IntKind.bits, IntKind.signed] at h
  omega
/-- A fence, or a mark. -/
def fen (k t e x : Int) : Ent := ⟨k, t, e, x, 0, 0, 0, 0, false, [], []⟩
theorem num_ok {n : Int} (h0 : 0 ≤ n) (h : n < 65536) : num n = true := by
  unfold num
  simp only [Bool.and_eq_true, decide_eq_true_eq]
  omega
theorem fen_may {k t e x : Int} (hk : k = 3 ∨ k = 4 ∨ k = 5 ∧ x = 0) (t0 : 0 ≤ t) (t1 : t < 65536) (e0 : 0 ≤ e) (e1 : e < 65536) (x0 : 0 ≤ x) (x1 : x < 65536) : may (fen k t e x) = true := by
  have h0 : may0 (fen k t e x) = true := by
    unfold may0 fen
    simp only [num_ok t0 t1, num_ok e0 e1, num_ok x0 x1]
    have n0 : num 0 = true := by decide
    have t0 : timeOk 0 = true := by decide
    rw [n0, t0]
    rcases hk with rfl | rfl | ⟨rfl, _⟩ <;> simp
  unfold may
  rw [h0]
  have hr : List.range 8 = [0, 1, 2, 3, 4, 5, 6, 7] := rfl
  rcases hk with rfl | rfl | ⟨rfl, rfl⟩
  · have hb : kinds.getD (fen 3 t e x).kind.toNat 0 = 199 := rfl
    rw [hb, hr]
    have b0 : (199 : Nat).testBit 0 = true := by decide
    have b1 : (199 : Nat).testBit 1 = true := by decide
    have b2 : (199 : Nat).testBit 2 = true := by decide
    simp [List.all, Ent.has, fen, b0, b1, b2]
  · have hb : kinds.getD (fen 4 t e x).kind.toNat 0 = 7 := rfl
    rw [hb, hr]
    have b0 : (7 : Nat).testBit 0 = true := by decide
    have b1 : (7 : Nat).testBit 1 = true := by decide
    have b2 : (7 : Nat).testBit 2 = true := by decide
    simp [List.all, Ent.has, fen, b0, b1, b2]
  · have hb : kinds.getD (fen 5 t e 0).kind.toNat 0 = 3 := rfl
    rw [hb, hr]
    have b0 : (3 : Nat).testBit 0 = true := by decide
    have b1 : (3 : Nat).testBit 1 = true := by decide
    simp [List.all, Ent.has, fen, b0, b1]
theorem fen_wf {k t e x : Int} (hk : k = 3 ∨ k = 4 ∨ k = 5 ∧ x = 0) (t0 : 0 ≤ t) (t1 : t < 65536) (e0 : 0 ≤ e) (e1 : e < 65536) (x0 : 0 ≤ x) (x1 : x < 65536) : entWf (fen k t e x) := by
  unfold entWf fen I64
  simp only
  refine ⟨by omega, by omega, ?_, ?_⟩ <;> (intro n hn; cases hn)
theorem enc_inj {a b : Int} {s t : List Int} (a0 : 0 ≤ a) (a1 : a < 65536) (b0 : 0 ≤ b) (b1 : b < 65536) (h : enc a ++ s = enc b ++ t) : a = b ∧ s = t := by
  have h1 := rdU_enc a0 (by omega) s
  have h2 := rdU_enc b0 (by omega) t
  rw [h, h2] at h1
  injection h1 with h3 h4
  injection h4 with _ h5
  exact ⟨h3.symm, h5.symm⟩
theorem fen_inj {k t e x t' e' x' : Int} (k0 : 0 ≤ k) (k1 : k < 65536) (t0 : 0 ≤ t) (t1 : t < 65536) (e0 : 0 ≤ e) (e1 : e < 65536) (x0 : 0 ≤ x) (x1 : x < 65536) (t0' : 0 ≤ t') (t1' : t' < 65536) (e0' : 0 ≤ e') (e1' : e' < 65536) (x0' : 0 ≤ x') (x1' : x' < 65536)
    (h : entB (fen k t e x) = entB (fen k t' e' x')) : t = t' ∧ e = e' ∧ x = x' := by
  unfold entB fen at h
  simp only [Pk.encs, List.flatMap_cons, List.flatMap_nil, List.append_assoc] at h
  have h2 := (enc_inj k0 k1 k0 k1 h).2
  obtain ⟨r1, h3⟩ := enc_inj t0 t1 t0' t1' h2
  obtain ⟨r2, h4⟩ := enc_inj e0 e1 e0' e1' h3
  obtain ⟨r3, _⟩ := enc_inj x0 x1 x0' x1' h4
  exact ⟨r1, r2, r3⟩
theorem toList_data (xs : List Int) : (strOfNums xs).toList = (strOfNums xs).data.toList := by
  rw [Go.Lib.strOfNums_toList]
  rfl
theorem str_inj {a b : List Int} (ha : Byt a) (hb : Byt b) (h : (strOfNums a).toList = (strOfNums b).toList) : a = b := by
  have h1 : (strOfNums a).data.toList = (strOfNums b).data.toList := by
    rw [Go.Proofs.Ytedbgkbjbfdnlaa.Rc.toList_data, Go.Proofs.Ytedbgkbjbfdnlaa.Rc.toList_data] at h
    exact h
  rw [strOfNums_data, strOfNums_data] at h1
  have hl : a.length = b.length := by simpa using congrArg List.length h1
  refine List.ext_getElem hl (fun i i1 i2 => ?_)
  have h2 : (a.map fun n => UInt8.ofNat n.toNat)[i]'(by simpa using i1) = (b.map fun n => UInt8.ofNat n.toNat)[i]'(by simpa using i2) := by simp only [h1]
  rw [List.getElem_map, List.getElem_map] at h2
  have p := ha _ (List.getElem_mem i1)
  have q := hb _ (List.getElem_mem i2)
  have h3 := congrArg UInt8.toNat h2
  rw [UInt8.toNat_ofNat', UInt8.toNat_ofNat'] at h3
  omega
theorem byt_app {a b : List Int} (ha : Byt a) (hb : Byt b) : Byt (a ++ b) := by
  intro x hx
  rcases List.mem_append.1 hx with h | h
  · exact ha x h
  · exact hb x h
theorem entB_byt (x : Ent) : Byt (entB x) := by
  unfold entB tailB recB
  exact byt_app (encs_byt _) (byt_app (byt_app (enc_byt _) (byt_app (enc_byt _) (enc_byt _))) (byt_app (enc_byt _) (byt_app (byt_app (enc_byt _) (uenc_byt _)) (byt_app (enc_byt _) (uenc_byt _)))))
/-- Same bytes, just if same numbers. -/
theorem fen_str {k t e x t' e' x' : Int} (hk : k = 3 ∨ k = 4 ∨ k = 5) (t0 : 0 ≤ t) (t1 : t < 65536) (e0 : 0 ≤ e) (e1 : e < 65536) (x0 : 0 ≤ x) (x1 : x < 65536) (t0' : 0 ≤ t') (t1' : t' < 65536) (e0' : 0 ≤ e') (e1' : e' < 65536) (x0' : 0 ≤ x') (x1' : x' < 65536)
    (hn : ¬ (t = t' ∧ e = e' ∧ x = x')) : ¬ (strOfNums (entB (fen k t e x))).toList = (strOfNums (entB (fen k t' e' x'))).toList := by
  intro h
  exact hn (fen_inj (by omega) (by omega) t0 t1 e0 e1 x0 x1 t0' t1' e0' e1' x0' x1' (str_inj (entB_byt _) (entB_byt _) h))
theorem entry_ok (x : Ent) (hx : entWf x) (hm : may x = true) (A9 : Option Addr) (n9 c9 : Nat) (A10 : Option Addr) (n10 c10 : Nat) (w : World) (h9 : x.offs.length = n9) (h10 : x.order.length = n10) (hr9 : (Kd.int .i64).C w A9 n9 x.offs) (hc9 : n9 ≤ c9) (hr10 : (Kd.int .i64).C w A10 n10 x.order) (hc10 : n10 ≤ c10) :
    Calls Try.prog 12 #[entV x A9 n9 c9 A10 n10 c10] w fun e w' => ∃ v : Value, e = .returned (.tuple #[v, .int .i64 0]) ∧ (Kd.int .u8).R 5 w' w.heap.size (fun _ => True) v (entB x) ∧ Below w.heap.size w w' := by
  subst h9
  subst h10
  exact Rp.rec_Entry.calls 306 _ _ _ _ _ _ _ _ _ A9 c9 x.offs A10 c10 x.order (entB x) 0 w hr9 hc9 hr10 hc10 (by rw [entF 300 (by omega) (by omega) x hx, if_pos hm])
theorem R_str {w : World} {base : Nat} {ok : Nat → Prop} {v : Value} {xs : List Int} (h : (Kd.int .u8).R 5 w base ok v xs) : (convert 32 9 v).run Try.prog w = .ok (.string (strOfNums xs)) w :=
  own_string Try.underlying32 Try.underlying5 Try.underlying9 (Kd.own_of_R h)
/-- A box of three numbers. -/
structure Arr (w : World) (g : Nat) (a b c : Int) : Prop where
  b : w.heap[g]? = some (.cells #[.int .u16 a, .int .u16 b, .int .u16 c] 31 (0, 0))
theorem Arr.below {w w2 : World} {g : Nat} {a b c : Int} (h : Arr w g a b c) (hb : Below w.heap.size w w2) : Arr w2 g a b c := ⟨blk_below h.b hb⟩
theorem Arr.cells {w : World} {g : Nat} {a b c : Int} (h : Arr w g a b c) : w.cell? ⟨g, 0, none⟩ = some (.int .u16 a) ∧ w.cell? ⟨g, 1, none⟩ = some (.int .u16 b) ∧ w.cell? ⟨g, 2, none⟩ = some (.int .u16 c) :=
  ⟨(blk_cell h.b 0).trans rfl, (blk_cell h.b 1).trans rfl, (blk_cell h.b 2).trans rfl⟩
theorem entAt_of {w : World} {g : Nat} {k t e x : Int} (h : w.heap[g]? = some (.cells #[.int .i64 k, .int .i64 t, .int .i64 e, .int .i64 x, .int .i64 0, .int .i64 0, .int .i64 0, .int .i64 0, .bool false, .slice none 0 0, .slice none 0 0] 26 (0, 0))) : EntAt w g (fen k t e x) none 0 0 none 0 0 :=
  ⟨(blk_cell h 0).trans rfl, (blk_cell h 1).trans rfl, (blk_cell h 2).trans rfl, (blk_cell h 3).trans rfl, (blk_cell h 4).trans rfl, (blk_cell h 5).trans rfl, (blk_cell h 6).trans rfl, (blk_cell h 7).trans rfl, (blk_cell h 8).trans rfl, (blk_cell h 9).trans rfl, (blk_cell h 10).trans rfl⟩
set_option maxHeartbeats 4000000 in
set_option maxRecDepth 100000 in
theorem fences_ok (a0 a1 a2 b0 b1 b2 kd : Int) (w : World) (ha0 : 0 ≤ a0 ∧ a0 < 65536) (ha1 : 0 ≤ a1 ∧ a1 < 65536) (ha2 : 0 ≤ a2 ∧ a2 < 65536) (hb0 : 0 ≤ b0 ∧ b0 < 65536) (hb1 : 0 ≤ b1 ∧ b1 < 65536) (hb2 : 0 ≤ b2 ∧ b2 < 65536) (hk : 0 ≤ kd ∧ kd < 256) :
    Calls Try.prog 4 #[.agg #[.int .u16 a0, .int .u16 a1, .int .u16 a2], .agg #[.int .u16 b0, .int .u16 b1, .int .u16 b2], .int .u8 kd] w fun e w' => e = .returned (.bool true) ∧ Below w.heap.size w w' := by
  have HA0 := Aside0.mk ha0
  have HA1 := Aside0.mk ha1
  have HA2 := Aside0.mk ha2
  have HB0 := Aside0.mk hb0
  have HB1 := Aside0.mk hb1
  have HB2 := Aside0.mk hb2
  have HB := Aside0.mk (Below.refl w.heap.size w)
  have z0 : wrap64 a0 = a0 := by unfold wrap64; omega
  have z1 : wrap64 a1 = a1 := by unfold wrap64; omega
  have z2 : wrap64 a2 = a2 := by unfold wrap64; omega
  have z3 : wrap64 b0 = b0 := by unfold wrap64; omega
  have z4 : wrap64 b1 = b1 := by unfold wrap64; omega
  have z5 : wrap64 b2 = b2 := by unfold wrap64; omega
  clear ha0 ha1 ha2 hb0 hb1 hb2
  go_enter Try.func4, Try.ntmps4
  go_upto_region 1 with fail
  have HG : Aside0 (Arr ((w.alloc (.cells #[.int .u16 a0, .int .u16 a1, .int .u16 a2] 31)).alloc (.cells #[.int .u16 b0, .int .u16 b1, .int .u16 b2] 31)) w.heap.size a0 a1 a2) := ⟨Arr.below ⟨heap_alloc_new w _⟩ (below_alloc (Below.refl _ _) _)⟩
  have HH : Aside0 (Arr ((w.alloc (.cells #[.int .u16 a0, .int .u16 a1, .int .u16 a2] 31)).alloc (.cells #[.int .u16 b0, .int .u16 b1, .int .u16 b2] 31)) (w.heap.size + 1) b0 b1 b2) := ⟨⟨by have := heap_alloc_new (w.alloc (.cells #[.int .u16 a0, .int .u16 a1, .int .u16 a2] 31)) (.cells #[.int .u16 b0, .int .u16 b1, .int .u16 b2] 31); simpa using this⟩⟩
  replace HB : Aside0 (Below w.heap.size w ((w.alloc (.cells #[.int .u16 a0, .int .u16 a1, .int .u16 a2] 31)).alloc (.cells #[.int .u16 b0, .int .u16 b1, .int .u16 b2] 31))) := ⟨below_alloc (below_alloc (Below.refl _ _) _) _⟩
  generalize ((w.alloc (.cells #[.int .u16 a0, .int .u16 a1, .int .u16 a2] 31)).alloc (.cells #[.int .u16 b0, .int .u16 b1, .int .u16 b2] 31)) = w1 at HG HH HB ⊢
  generalize w.heap.size + 1 = g2 at HH ⊢
  obtain ⟨g1, HGW⟩ : ∃ g1, Aside0 (w.heap.size = g1) := ⟨_, ⟨rfl⟩⟩
  rw [HGW.out] at HG
  go_wp2_with fail
  rw [HGW.out]
  refine (shown_ok _).mono ?_
  rintro e w2 ⟨rfl, hb_⟩
  have n0_ := Aside0.mk (below_step HB.out hb_); have n1_ := Aside0.mk (HG.out.below hb_); have n2_ := Aside0.mk (HH.out.below hb_); clear HB; clear HG; clear HH; have HB := n0_; have HG := n1_; have HH := n2_; clear n0_ n1_ n2_; clear hb_
  have hm : Int.tmod kd 3 = 0 ∨ Int.tmod kd 3 = 1 ∨ Int.tmod kd 3 = 2 := by
    rw [Int.tmod_eq_emod_of_nonneg hk.1]
    omega
  go_upto_region 3 with fail
  have HS : Aside0 ((w2.alloc (.cells #[.int .i64 3, .int .i64 4, .int .i64 5] 3)).cell? ⟨w2.heap.size, 0, none⟩ = some (.int .i64 3) ∧ (w2.alloc (.cells #[.int .i64 3, .int .i64 4, .int .i64 5] 3)).cell? ⟨w2.heap.size, 1, none⟩ = some (.int .i64 4) ∧ (w2.alloc (.cells #[.int .i64 3, .int .i64 4, .int .i64 5] 3)).cell? ⟨w2.heap.size, 2, none⟩ = some (.int .i64 5)) := ⟨cell_new _ _ _ _ _ rfl, cell_new _ _ _ _ _ rfl, cell_new _ _ _ _ _ rfl⟩
  have hb_ := below_alloc (Below.refl w2.heap.size w2) (.cells #[.int .i64 3, .int .i64 4, .int .i64 5] 3)
  generalize w2.alloc (.cells #[.int .i64 3, .int .i64 4, .int .i64 5] 3) = w3 at HS hb_ ⊢
  have n0_ := Aside0.mk (below_step HB.out hb_); have n1_ := Aside0.mk (HG.out.below hb_); have n2_ := Aside0.mk (HH.out.below hb_); clear HB; clear HG; clear HH; have HB := n0_; have HG := n1_; have HH := n2_; clear n0_ n1_ n2_; clear hb_
  obtain ⟨s0, s1, s2⟩ := HS.out
  rcases hm with hm | hm | hm
  · obtain ⟨x0_, x1_, x2_⟩ := HG.out.cells; obtain ⟨y0_, y1_, y2_⟩ := HH.out.cells
    go_upto_region 5 with fail
    clear x0_ x1_ x2_ y0_ y1_ y2_ s0 s1 s2
    have L13 := Aside0.mk (Array.getElem?_eq_some_iff.1 HG.out.b).1
    have L23 := Aside0.mk (Array.getElem?_eq_some_iff.1 HH.out.b).1
    have BK1 := Aside0.mk (heap_alloc_new w3 (.cells #[.int .i64 3, .int .i64 a0, .int .i64 a1, .int .i64 0, .int .i64 0, .int .i64 0, .int .i64 0, .int .i64 0, .bool false, .slice none 0 0, .slice none 0 0] 26))
    have hb_ := below_alloc (Below.refl w3.heap.size w3) (.cells #[.int .i64 3, .int .i64 a0, .int .i64 a1, .int .i64 0, .int .i64 0, .int .i64 0, .int .i64 0, .int .i64 0, .bool false, .slice none 0 0, .slice none 0 0] 26)
    generalize w3.alloc (.cells #[.int .i64 3, .int .i64 a0, .int .i64 a1, .int .i64 0, .int .i64 0, .int .i64 0, .int .i64 0, .int .i64 0, .bool false, .slice none 0 0, .slice none 0 0] 26) = w4 at BK1 hb_ ⊢
    have HG3 := Aside0.mk HB.out.size
    have n0_ := Aside0.mk (below_step HB.out hb_); have n1_ := Aside0.mk (HG.out.below hb_); have n2_ := Aside0.mk (HH.out.below hb_); clear HB; clear HG; clear HH; have HB := n0_; have HG := n1_; have HH := n2_; clear n0_ n1_ n2_; clear hb_
    generalize w3.heap.size = g3 at BK1 HG3 L13 L23 ⊢
    obtain ⟨x0_, x1_, x2_⟩ := HG.out.cells; obtain ⟨y0_, y1_, y2_⟩ := HH.out.cells
    go_upto_region 6 with fail
    clear x0_ x1_ x2_ y0_ y1_ y2_
    have L14 := Aside0.mk (Array.getElem?_eq_some_iff.1 HG.out.b).1
    have L24 := Aside0.mk (Array.getElem?_eq_some_iff.1 HH.out.b).1
    have L34 := Aside0.mk (Array.getElem?_eq_some_iff.1 BK1.out).1
    have BK2 := Aside0.mk (heap_alloc_new w4 (.cells #[.int .i64 3, .int .i64 b0, .int .i64 b1, .int .i64 0, .int .i64 0, .int .i64 0, .int .i64 0, .int .i64 0, .bool false, .slice none 0 0, .slice none 0 0] 26))
    have hb_ := below_alloc (Below.refl w4.heap.size w4) (.cells #[.int .i64 3, .int .i64 b0, .int .i64 b1, .int .i64 0, .int .i64 0, .int .i64 0, .int .i64 0, .int .i64 0, .bool false, .slice none 0 0, .slice none 0 0] 26)
    generalize w4.alloc (.cells #[.int .i64 3, .int .i64 b0, .int .i64 b1, .int .i64 0, .int .i64 0, .int .i64 0, .int .i64 0, .int .i64 0, .bool false, .slice none 0 0, .slice none 0 0] 26) = w5 at BK2 hb_ ⊢
    replace BK1 := Aside0.mk (blk_below BK1.out hb_)
    have HG4 := Aside0.mk HB.out.size
    have n0_ := Aside0.mk (below_step HB.out hb_); have n1_ := Aside0.mk (HG.out.below hb_); have n2_ := Aside0.mk (HH.out.below hb_); clear HB; clear HG; clear HH; have HB := n0_; have HG := n1_; have HH := n2_; clear n0_ n1_ n2_; clear hb_
    generalize w4.heap.size = g4 at BK2 HG4 L14 L24 L34 ⊢
    obtain ⟨x0_, x1_, x2_⟩ := HG.out.cells; obtain ⟨y0_, y1_, y2_⟩ := HH.out.cells
    have c3_ : w5.cell? ⟨g3, 3, none⟩ = some (.int .i64 0) := (blk_cell BK1.out 3).trans rfl
    have f3_ := blk_frozen BK1.out 3
    go_upto_region 8 with fail
    clear x0_ x1_ x2_ y0_ y1_ y2_ c3_ f3_
    replace BK2 := Aside0.mk (blk_far BK2.out (p := ⟨g3, 3, none⟩) (by have := L34.out; show g4 ≠ g3; omega) (.int .i64 a2))
    replace HG := Aside0.mk (Arr.mk (blk_far HG.out.b (p := ⟨g3, 3, none⟩) (by have := L13.out; show g1 ≠ g3; omega) (.int .i64 a2)))
    replace HH := Aside0.mk (Arr.mk (blk_far HH.out.b (p := ⟨g3, 3, none⟩) (by have := L23.out; show g2 ≠ g3; omega) (.int .i64 a2)))
    replace BK1 := Aside0.mk (blk_put BK1.out 3 (.int .i64 a2) rfl)
    replace HB := Aside0.mk (below_set (j := 3) (v := .int .i64 a2) HB.out HG3.out)
    generalize w5.setCell ⟨g3, 3, none⟩ (.int .i64 a2) = w6 at BK1 BK2 HG HH HB ⊢
    obtain ⟨x0_, x1_, x2_⟩ := HG.out.cells; obtain ⟨y0_, y1_, y2_⟩ := HH.out.cells
    have c3_ : w6.cell? ⟨g4, 3, none⟩ = some (.int .i64 0) := (blk_cell BK2.out 3).trans rfl
    have f3_ := blk_frozen BK2.out 3
    go_upto_region 9 with fail
    clear x0_ x1_ x2_ y0_ y1_ y2_ c3_ f3_
    replace BK1 := Aside0.mk (blk_far BK1.out (p := ⟨g4, 3, none⟩) (by have := L34.out; show g3 ≠ g4; omega) (.int .i64 b2))
    replace HG := Aside0.mk (Arr.mk (blk_far HG.out.b (p := ⟨g4, 3, none⟩) (by have := L14.out; show g1 ≠ g4; omega) (.int .i64 b2)))
    replace HH := Aside0.mk (Arr.mk (blk_far HH.out.b (p := ⟨g4, 3, none⟩) (by have := L24.out; show g2 ≠ g4; omega) (.int .i64 b2)))
    replace BK2 := Aside0.mk (blk_put BK2.out 3 (.int .i64 b2) rfl)
    replace HB := Aside0.mk (below_set (j := 3) (v := .int .i64 b2) HB.out HG4.out)
    generalize w6.setCell ⟨g4, 3, none⟩ (.int .i64 b2) = w7 at BK1 BK2 HG HH HB ⊢
    have HE := Aside0.mk (entAt_of BK1.out)
    have HF := Aside0.mk (entAt_of BK2.out)
    clear BK1 BK2
    obtain ⟨e0, e1, e2, e3, e4, e5, e6, e7, e8, e9, e10⟩ := HE.out; simp only [fen] at e0 e1 e2 e3 e4 e5 e6 e7 e8 e9 e10
    go_wp2_with fail
    refine (entry_ok (fen 3 a0 a1 a2) (fen_wf (.inl rfl) HA0.out.1 HA0.out.2 HA1.out.1 HA1.out.2 HA2.out.1 HA2.out.2) (fen_may (.inl rfl) HA0.out.1 HA0.out.2 HA1.out.1 HA1.out.2 HA2.out.1 HA2.out.2) none 0 0 none 0 0 _ rfl rfl (Kd.C_nil _ _) (Nat.le_refl _) (Kd.C_nil _ _) (Nat.le_refl _)).mono ?_
    rintro e w8 ⟨v1, rfl, hr_, hb_⟩
    have HV1 := Aside0.mk hr_
    clear e0 e1 e2 e3 e4 e5 e6 e7 e8 e9 e10 hr_ HE
    have n0_ := Aside0.mk (below_step HB.out hb_); have n1_ := Aside0.mk (HG.out.below hb_); have n2_ := Aside0.mk (HH.out.below hb_); have n3_ := Aside0.mk (HF.out.below hb_); clear HB; clear HG; clear HH; clear HF; have HB := n0_; have HG := n1_; have HH := n2_; have HF := n3_; clear n0_ n1_ n2_ n3_; clear hb_
    obtain ⟨e0, e1, e2, e3, e4, e5, e6, e7, e8, e9, e10⟩ := HF.out; simp only [fen] at e0 e1 e2 e3 e4 e5 e6 e7 e8 e9 e10
    go_wp2_with fail
    refine (entry_ok (fen 3 b0 b1 b2) (fen_wf (.inl rfl) HB0.out.1 HB0.out.2 HB1.out.1 HB1.out.2 HB2.out.1 HB2.out.2) (fen_may (.inl rfl) HB0.out.1 HB0.out.2 HB1.out.1 HB1.out.2 HB2.out.1 HB2.out.2) none 0 0 none 0 0 _ rfl rfl (Kd.C_nil _ _) (Nat.le_refl _) (Kd.C_nil _ _) (Nat.le_refl _)).mono ?_
    rintro e w9 ⟨v2, rfl, hr_, hb_⟩
    have HV2 := Aside0.mk hr_
    clear e0 e1 e2 e3 e4 e5 e6 e7 e8 e9 e10 hr_ HF
    replace HV1 := Aside0.mk (Kd.R_below HV1.out hb_)
    have n0_ := Aside0.mk (below_step HB.out hb_); have n1_ := Aside0.mk (HG.out.below hb_); have n2_ := Aside0.mk (HH.out.below hb_); clear HB; clear HG; clear HH; have HB := n0_; have HG := n1_; have HH := n2_; clear n0_ n1_ n2_; clear hb_
    by_cases q0 : a0 = b0
    · subst q0
      by_cases q1 : a1 = b1
      · subst q1
        by_cases q2 : a2 = b2
        · subst q2
          have e1_ := R_str HV1.out
          have e2_ := R_str HV2.out
          generalize strOfNums (entB (fen 3 a0 a1 a2)) = t1 at e1_ e2_
          obtain ⟨x0_, x1_, x2_⟩ := HG.out.cells; obtain ⟨y0_, y1_, y2_⟩ := HH.out.cells
          go_wp2
          go_ret
          exact ⟨rfl, HB.out⟩
        · skip
          have hn : ¬ (strOfNums (entB (fen 3 a0 a1 a2))).toList = (strOfNums (entB (fen 3 a0 a1 b2))).toList := fen_str (by omega) HA0.out.1 HA0.out.2 HA1.out.1 HA1.out.2 HA2.out.1 HA2.out.2 HB0.out.1 HB0.out.2 HB1.out.1 HB1.out.2 HB2.out.1 HB2.out.2 (fun h => q2 h.2.2)
          have e1_ := R_str HV1.out
          have e2_ := R_str HV2.out
          generalize strOfNums (entB (fen 3 a0 a1 a2)) = t1 at e1_ hn
          generalize strOfNums (entB (fen 3 a0 a1 b2)) = t2 at e2_ hn
          have hq : (t1.toList == t2.toList) = false := by simpa using hn
          clear hn
          have q2a : (a2 == b2) = false := by simpa using q2
          obtain ⟨x0_, x1_, x2_⟩ := HG.out.cells; obtain ⟨y0_, y1_, y2_⟩ := HH.out.cells
          go_wp2
          go_ret
          exact ⟨rfl, HB.out⟩
      · skip
        have hn : ¬ (strOfNums (entB (fen 3 a0 a1 a2))).toList = (strOfNums (entB (fen 3 a0 b1 b2))).toList := fen_str (by omega) HA0.out.1 HA0.out.2 HA1.out.1 HA1.out.2 HA2.out.1 HA2.out.2 HB0.out.1 HB0.out.2 HB1.out.1 HB1.out.2 HB2.out.1 HB2.out.2 (fun h => q1 h.2.1)
        have e1_ := R_str HV1.out
        have e2_ := R_str HV2.out
        generalize strOfNums (entB (fen 3 a0 a1 a2)) = t1 at e1_ hn
        generalize strOfNums (entB (fen 3 a0 b1 b2)) = t2 at e2_ hn
        have hq : (t1.toList == t2.toList) = false := by simpa using hn
        clear hn
        have q1a : (a1 == b1) = false := by simpa using q1
        obtain ⟨x0_, x1_, x2_⟩ := HG.out.cells; obtain ⟨y0_, y1_, y2_⟩ := HH.out.cells
        go_wp2
        go_ret
        exact ⟨rfl, HB.out⟩
    · skip
      have hn : ¬ (strOfNums (entB (fen 3 a0 a1 a2))).toList = (strOfNums (entB (fen 3 b0 b1 b2))).toList := fen_str (by omega) HA0.out.1 HA0.out.2 HA1.out.1 HA1.out.2 HA2.out.1 HA2.out.2 HB0.out.1 HB0.out.2 HB1.out.1 HB1.out.2 HB2.out.1 HB2.out.2 (fun h => q0 h.1)
      have e1_ := R_str HV1.out
      have e2_ := R_str HV2.out
      generalize strOfNums (entB (fen 3 a0 a1 a2)) = t1 at e1_ hn
      generalize strOfNums (entB (fen 3 b0 b1 b2)) = t2 at e2_ hn
      have hq : (t1.toList == t2.toList) = false := by simpa using hn
      clear hn
      have q0a : (a0 == b0) = false := by simpa using q0
      obtain ⟨x0_, x1_, x2_⟩ := HG.out.cells; obtain ⟨y0_, y1_, y2_⟩ := HH.out.cells
      go_wp2
      go_ret
      exact ⟨rfl, HB.out⟩
  · obtain ⟨x0_, x1_, x2_⟩ := HG.out.cells; obtain ⟨y0_, y1_, y2_⟩ := HH.out.cells
    go_upto_region 5 with fail
    clear x0_ x1_ x2_ y0_ y1_ y2_ s0 s1 s2
    have L13 := Aside0.mk (Array.getElem?_eq_some_iff.1 HG.out.b).1
    have L23 := Aside0.mk (Array.getElem?_eq_some_iff.1 HH.out.b).1
    have BK1 := Aside0.mk (heap_alloc_new w3 (.cells #[.int .i64 4, .int .i64 a0, .int .i64 a1, .int .i64 0, .int .i64 0, .int .i64 0, .int .i64 0, .int .i64 0, .bool false, .slice none 0 0, .slice none 0 0] 26))
    have hb_ := below_alloc (Below.refl w3.heap.size w3) (.cells #[.int .i64 4, .int .i64 a0, .int .i64 a1, .int .i64 0, .int .i64 0, .int .i64 0, .int .i64 0, .int .i64 0, .bool false, .slice none 0 0, .slice none 0 0] 26)
    generalize w3.alloc (.cells #[.int .i64 4, .int .i64 a0, .int .i64 a1, .int .i64 0, .int .i64 0, .int .i64 0, .int .i64 0, .int .i64 0, .bool false, .slice none 0 0, .slice none 0 0] 26) = w4 at BK1 hb_ ⊢
    have HG3 := Aside0.mk HB.out.size
    have n0_ := Aside0.mk (below_step HB.out hb_); have n1_ := Aside0.mk (HG.out.below hb_); have n2_ := Aside0.mk (HH.out.below hb_); clear HB; clear HG; clear HH; have HB := n0_; have HG := n1_; have HH := n2_; clear n0_ n1_ n2_; clear hb_
    generalize w3.heap.size = g3 at BK1 HG3 L13 L23 ⊢
    obtain ⟨x0_, x1_, x2_⟩ := HG.out.cells; obtain ⟨y0_, y1_, y2_⟩ := HH.out.cells
    go_upto_region 6 with fail
    clear x0_ x1_ x2_ y0_ y1_ y2_
    have L14 := Aside0.mk (Array.getElem?_eq_some_iff.1 HG.out.b).1
    have L24 := Aside0.mk (Array.getElem?_eq_some_iff.1 HH.out.b).1
    have L34 := Aside0.mk (Array.getElem?_eq_some_iff.1 BK1.out).1
    have BK2 := Aside0.mk (heap_alloc_new w4 (.cells #[.int .i64 4, .int .i64 b0, .int .i64 b1, .int .i64 0, .int .i64 0, .int .i64 0, .int .i64 0, .int .i64 0, .bool false, .slice none 0 0, .slice none 0 0] 26))
    have hb_ := below_alloc (Below.refl w4.heap.size w4) (.cells #[.int .i64 4, .int .i64 b0, .int .i64 b1, .int .i64 0, .int .i64 0, .int .i64 0, .int .i64 0, .int .i64 0, .bool false, .slice none 0 0, .slice none 0 0] 26)
    generalize w4.alloc (.cells #[.int .i64 4, .int .i64 b0, .int .i64 b1, .int .i64 0, .int .i64 0, .int .i64 0, .int .i64 0, .int .i64 0, .bool false, .slice none 0 0, .slice none 0 0] 26) = w5 at BK2 hb_ ⊢
    replace BK1 := Aside0.mk (blk_below BK1.out hb_)
    have HG4 := Aside0.mk HB.out.size
    have n0_ := Aside0.mk (below_step HB.out hb_); have n1_ := Aside0.mk (HG.out.below hb_); have n2_ := Aside0.mk (HH.out.below hb_); clear HB; clear HG; clear HH; have HB := n0_; have HG := n1_; have HH := n2_; clear n0_ n1_ n2_; clear hb_
    generalize w4.heap.size = g4 at BK2 HG4 L14 L24 L34 ⊢
    obtain ⟨x0_, x1_, x2_⟩ := HG.out.cells; obtain ⟨y0_, y1_, y2_⟩ := HH.out.cells
    have c3_ : w5.cell? ⟨g3, 3, none⟩ = some (.int .i64 0) := (blk_cell BK1.out 3).trans rfl
    have f3_ := blk_frozen BK1.out 3
    go_upto_region 8 with fail
    clear x0_ x1_ x2_ y0_ y1_ y2_ c3_ f3_
    replace BK2 := Aside0.mk (blk_far BK2.out (p := ⟨g3, 3, none⟩) (by have := L34.out; show g4 ≠ g3; omega) (.int .i64 a2))
    replace HG := Aside0.mk (Arr.mk (blk_far HG.out.b (p := ⟨g3, 3, none⟩) (by have := L13.out; show g1 ≠ g3; omega) (.int .i64 a2)))
    replace HH := Aside0.mk (Arr.mk (blk_far HH.out.b (p := ⟨g3, 3, none⟩) (by have := L23.out; show g2 ≠ g3; omega) (.int .i64 a2)))
    replace BK1 := Aside0.mk (blk_put BK1.out 3 (.int .i64 a2) rfl)
    replace HB := Aside0.mk (below_set (j := 3) (v := .int .i64 a2) HB.out HG3.out)
    generalize w5.setCell ⟨g3, 3, none⟩ (.int .i64 a2) = w6 at BK1 BK2 HG HH HB ⊢
    obtain ⟨x0_, x1_, x2_⟩ := HG.out.cells; obtain ⟨y0_, y1_, y2_⟩ := HH.out.cells
    have c3_ : w6.cell? ⟨g4, 3, none⟩ = some (.int .i64 0) := (blk_cell BK2.out 3).trans rfl
    have f3_ := blk_frozen BK2.out 3
    go_upto_region 9 with fail
    clear x0_ x1_ x2_ y0_ y1_ y2_ c3_ f3_
    replace BK1 := Aside0.mk (blk_far BK1.out (p := ⟨g4, 3, none⟩) (by have := L34.out; show g3 ≠ g4; omega) (.int .i64 b2))
    replace HG := Aside0.mk (Arr.mk (blk_far HG.out.b (p := ⟨g4, 3, none⟩) (by have := L14.out; show g1 ≠ g4; omega) (.int .i64 b2)))
    replace HH := Aside0.mk (Arr.mk (blk_far HH.out.b (p := ⟨g4, 3, none⟩) (by have := L24.out; show g2 ≠ g4; omega) (.int .i64 b2)))
    replace BK2 := Aside0.mk (blk_put BK2.out 3 (.int .i64 b2) rfl)
    replace HB := Aside0.mk (below_set (j := 3) (v := .int .i64 b2) HB.out HG4.out)
    generalize w6.setCell ⟨g4, 3, none⟩ (.int .i64 b2) = w7 at BK1 BK2 HG HH HB ⊢
    have HE := Aside0.mk (entAt_of BK1.out)
    have HF := Aside0.mk (entAt_of BK2.out)
    clear BK1 BK2
    obtain ⟨e0, e1, e2, e3, e4, e5, e6, e7, e8, e9, e10⟩ := HE.out; simp only [fen] at e0 e1 e2 e3 e4 e5 e6 e7 e8 e9 e10
    go_wp2_with fail
    refine (entry_ok (fen 4 a0 a1 a2) (fen_wf (.inr (.inl rfl)) HA0.out.1 HA0.out.2 HA1.out.1 HA1.out.2 HA2.out.1 HA2.out.2) (fen_may (.inr (.inl rfl)) HA0.out.1 HA0.out.2 HA1.out.1 HA1.out.2 HA2.out.1 HA2.out.2) none 0 0 none 0 0 _ rfl rfl (Kd.C_nil _ _) (Nat.le_refl _) (Kd.C_nil _ _) (Nat.le_refl _)).mono ?_
    rintro e w8 ⟨v1, rfl, hr_, hb_⟩
    have HV1 := Aside0.mk hr_
    clear e0 e1 e2 e3 e4 e5 e6 e7 e8 e9 e10 hr_ HE
    have n0_ := Aside0.mk (below_step HB.out hb_); have n1_ := Aside0.mk (HG.out.below hb_); have n2_ := Aside0.mk (HH.out.below hb_); have n3_ := Aside0.mk (HF.out.below hb_); clear HB; clear HG; clear HH; clear HF; have HB := n0_; have HG := n1_; have HH := n2_; have HF := n3_; clear n0_ n1_ n2_ n3_; clear hb_
    obtain ⟨e0, e1, e2, e3, e4, e5, e6, e7, e8, e9, e10⟩ := HF.out; simp only [fen] at e0 e1 e2 e3 e4 e5 e6 e7 e8 e9 e10
    go_wp2_with fail
    refine (entry_ok (fen 4 b0 b1 b2) (fen_wf (.inr (.inl rfl)) HB0.out.1 HB0.out.2 HB1.out.1 HB1.out.2 HB2.out.1 HB2.out.2) (fen_may (.inr (.inl rfl)) HB0.out.1 HB0.out.2 HB1.out.1 HB1.out.2 HB2.out.1 HB2.out.2) none 0 0 none 0 0 _ rfl rfl (Kd.C_nil _ _) (Nat.le_refl _) (Kd.C_nil _ _) (Nat.le_refl _)).mono ?_
    rintro e w9 ⟨v2, rfl, hr_, hb_⟩
    have HV2 := Aside0.mk hr_
    clear e0 e1 e2 e3 e4 e5 e6 e7 e8 e9 e10 hr_ HF
    replace HV1 := Aside0.mk (Kd.R_below HV1.out hb_)
    have n0_ := Aside0.mk (below_step HB.out hb_); have n1_ := Aside0.mk (HG.out.below hb_); have n2_ := Aside0.mk (HH.out.below hb_); clear HB; clear HG; clear HH; have HB := n0_; have HG := n1_; have HH := n2_; clear n0_ n1_ n2_; clear hb_
    by_cases q0 : a0 = b0
    · subst q0
      by_cases q1 : a1 = b1
      · subst q1
        by_cases q2 : a2 = b2
        · subst q2
          have e1_ := R_str HV1.out
          have e2_ := R_str HV2.out
          generalize strOfNums (entB (fen 4 a0 a1 a2)) = t1 at e1_ e2_
          obtain ⟨x0_, x1_, x2_⟩ := HG.out.cells; obtain ⟨y0_, y1_, y2_⟩ := HH.out.cells
          go_wp2
          go_ret
          exact ⟨rfl, HB.out⟩
        · skip
          have hn : ¬ (strOfNums (entB (fen 4 a0 a1 a2))).toList = (strOfNums (entB (fen 4 a0 a1 b2))).toList := fen_str (by omega) HA0.out.1 HA0.out.2 HA1.out.1 HA1.out.2 HA2.out.1 HA2.out.2 HB0.out.1 HB0.out.2 HB1.out.1 HB1.out.2 HB2.out.1 HB2.out.2 (fun h => q2 h.2.2)
          have e1_ := R_str HV1.out
          have e2_ := R_str HV2.out
          generalize strOfNums (entB (fen 4 a0 a1 a2)) = t1 at e1_ hn
          generalize strOfNums (entB (fen 4 a0 a1 b2)) = t2 at e2_ hn
          have hq : (t1.toList == t2.toList) = false := by simpa using hn
          clear hn
          have q2a : (a2 == b2) = false := by simpa using q2
          obtain ⟨x0_, x1_, x2_⟩ := HG.out.cells; obtain ⟨y0_, y1_, y2_⟩ := HH.out.cells
          go_wp2
          go_ret
          exact ⟨rfl, HB.out⟩
      · skip
        have hn : ¬ (strOfNums (entB (fen 4 a0 a1 a2))).toList = (strOfNums (entB (fen 4 a0 b1 b2))).toList := fen_str (by omega) HA0.out.1 HA0.out.2 HA1.out.1 HA1.out.2 HA2.out.1 HA2.out.2 HB0.out.1 HB0.out.2 HB1.out.1 HB1.out.2 HB2.out.1 HB2.out.2 (fun h => q1 h.2.1)
        have e1_ := R_str HV1.out
        have e2_ := R_str HV2.out
        generalize strOfNums (entB (fen 4 a0 a1 a2)) = t1 at e1_ hn
        generalize strOfNums (entB (fen 4 a0 b1 b2)) = t2 at e2_ hn
        have hq : (t1.toList == t2.toList) = false := by simpa using hn
        clear hn
        have q1a : (a1 == b1) = false := by simpa using q1
        obtain ⟨x0_, x1_, x2_⟩ := HG.out.cells; obtain ⟨y0_, y1_, y2_⟩ := HH.out.cells
        go_wp2
        go_ret
        exact ⟨rfl, HB.out⟩
    · skip
      have hn : ¬ (strOfNums (entB (fen 4 a0 a1 a2))).toList = (strOfNums (entB (fen 4 b0 b1 b2))).toList := fen_str (by omega) HA0.out.1 HA0.out.2 HA1.out.1 HA1.out.2 HA2.out.1 HA2.out.2 HB0.out.1 HB0.out.2 HB1.out.1 HB1.out.2 HB2.out.1 HB2.out.2 (fun h => q0 h.1)
      have e1_ := R_str HV1.out
      have e2_ := R_str HV2.out
      generalize strOfNums (entB (fen 4 a0 a1 a2)) = t1 at e1_ hn
      generalize strOfNums (entB (fen 4 b0 b1 b2)) = t2 at e2_ hn
      have hq : (t1.toList == t2.toList) = false := by simpa using hn
      clear hn
      have q0a : (a0 == b0) = false := by simpa using q0
      obtain ⟨x0_, x1_, x2_⟩ := HG.out.cells; obtain ⟨y0_, y1_, y2_⟩ := HH.out.cells
      go_wp2
      go_ret
      exact ⟨rfl, HB.out⟩
  · obtain ⟨x0_, x1_, x2_⟩ := HG.out.cells; obtain ⟨y0_, y1_, y2_⟩ := HH.out.cells
    go_upto_region 5 with fail
    clear x0_ x1_ x2_ y0_ y1_ y2_ s0 s1 s2
    have L13 := Aside0.mk (Array.getElem?_eq_some_iff.1 HG.out.b).1
    have L23 := Aside0.mk (Array.getElem?_eq_some_iff.1 HH.out.b).1
    have BK1 := Aside0.mk (heap_alloc_new w3 (.cells #[.int .i64 5, .int .i64 a0, .int .i64 a1, .int .i64 0, .int .i64 0, .int .i64 0, .int .i64 0, .int .i64 0, .bool false, .slice none 0 0, .slice none 0 0] 26))
    have hb_ := below_alloc (Below.refl w3.heap.size w3) (.cells #[.int .i64 5, .int .i64 a0, .int .i64 a1, .int .i64 0, .int .i64 0, .int .i64 0, .int .i64 0, .int .i64 0, .bool false, .slice none 0 0, .slice none 0 0] 26)
    generalize w3.alloc (.cells #[.int .i64 5, .int .i64 a0, .int .i64 a1, .int .i64 0, .int .i64 0, .int .i64 0, .int .i64 0, .int .i64 0, .bool false, .slice none 0 0, .slice none 0 0] 26) = w4 at BK1 hb_ ⊢
    have HG3 := Aside0.mk HB.out.size
    have n0_ := Aside0.mk (below_step HB.out hb_); have n1_ := Aside0.mk (HG.out.below hb_); have n2_ := Aside0.mk (HH.out.below hb_); clear HB; clear HG; clear HH; have HB := n0_; have HG := n1_; have HH := n2_; clear n0_ n1_ n2_; clear hb_
    generalize w3.heap.size = g3 at BK1 HG3 L13 L23 ⊢
    obtain ⟨x0_, x1_, x2_⟩ := HG.out.cells; obtain ⟨y0_, y1_, y2_⟩ := HH.out.cells
    go_upto_region 6 with fail
    clear x0_ x1_ x2_ y0_ y1_ y2_
    have L14 := Aside0.mk (Array.getElem?_eq_some_iff.1 HG.out.b).1
    have L24 := Aside0.mk (Array.getElem?_eq_some_iff.1 HH.out.b).1
    have L34 := Aside0.mk (Array.getElem?_eq_some_iff.1 BK1.out).1
    have BK2 := Aside0.mk (heap_alloc_new w4 (.cells #[.int .i64 5, .int .i64 b0, .int .i64 b1, .int .i64 0, .int .i64 0, .int .i64 0, .int .i64 0, .int .i64 0, .bool false, .slice none 0 0, .slice none 0 0] 26))
    have hb_ := below_alloc (Below.refl w4.heap.size w4) (.cells #[.int .i64 5, .int .i64 b0, .int .i64 b1, .int .i64 0, .int .i64 0, .int .i64 0, .int .i64 0, .int .i64 0, .bool false, .slice none 0 0, .slice none 0 0] 26)
    generalize w4.alloc (.cells #[.int .i64 5, .int .i64 b0, .int .i64 b1, .int .i64 0, .int .i64 0, .int .i64 0, .int .i64 0, .int .i64 0, .bool false, .slice none 0 0, .slice none 0 0] 26) = w5 at BK2 hb_ ⊢
    replace BK1 := Aside0.mk (blk_below BK1.out hb_)
    have HG4 := Aside0.mk HB.out.size
    have n0_ := Aside0.mk (below_step HB.out hb_); have n1_ := Aside0.mk (HG.out.below hb_); have n2_ := Aside0.mk (HH.out.below hb_); clear HB; clear HG; clear HH; have HB := n0_; have HG := n1_; have HH := n2_; clear n0_ n1_ n2_; clear hb_
    generalize w4.heap.size = g4 at BK2 HG4 L14 L24 L34 ⊢
    have HE := Aside0.mk (entAt_of BK1.out)
    have HF := Aside0.mk (entAt_of BK2.out)
    clear BK1 BK2
    obtain ⟨e0, e1, e2, e3, e4, e5, e6, e7, e8, e9, e10⟩ := HE.out; simp only [fen] at e0 e1 e2 e3 e4 e5 e6 e7 e8 e9 e10
    go_wp2_with fail
    refine (entry_ok (fen 5 a0 a1 0) (fen_wf (.inr (.inr ⟨rfl, rfl⟩)) HA0.out.1 HA0.out.2 HA1.out.1 HA1.out.2 (by omega) (by omega)) (fen_may (.inr (.inr ⟨rfl, rfl⟩)) HA0.out.1 HA0.out.2 HA1.out.1 HA1.out.2 (by omega) (by omega)) none 0 0 none 0 0 _ rfl rfl (Kd.C_nil _ _) (Nat.le_refl _) (Kd.C_nil _ _) (Nat.le_refl _)).mono ?_
    rintro e w8 ⟨v1, rfl, hr_, hb_⟩
    have HV1 := Aside0.mk hr_
    clear e0 e1 e2 e3 e4 e5 e6 e7 e8 e9 e10 hr_ HE
    have n0_ := Aside0.mk (below_step HB.out hb_); have n1_ := Aside0.mk (HG.out.below hb_); have n2_ := Aside0.mk (HH.out.below hb_); have n3_ := Aside0.mk (HF.out.below hb_); clear HB; clear HG; clear HH; clear HF; have HB := n0_; have HG := n1_; have HH := n2_; have HF := n3_; clear n0_ n1_ n2_ n3_; clear hb_
    obtain ⟨e0, e1, e2, e3, e4, e5, e6, e7, e8, e9, e10⟩ := HF.out; simp only [fen] at e0 e1 e2 e3 e4 e5 e6 e7 e8 e9 e10
    go_wp2_with fail
    refine (entry_ok (fen 5 b0 b1 0) (fen_wf (.inr (.inr ⟨rfl, rfl⟩)) HB0.out.1 HB0.out.2 HB1.out.1 HB1.out.2 (by omega) (by omega)) (fen_may (.inr (.inr ⟨rfl, rfl⟩)) HB0.out.1 HB0.out.2 HB1.out.1 HB1.out.2 (by omega) (by omega)) none 0 0 none 0 0 _ rfl rfl (Kd.C_nil _ _) (Nat.le_refl _) (Kd.C_nil _ _) (Nat.le_refl _)).mono ?_
    rintro e w9 ⟨v2, rfl, hr_, hb_⟩
    have HV2 := Aside0.mk hr_
    clear e0 e1 e2 e3 e4 e5 e6 e7 e8 e9 e10 hr_ HF
    replace HV1 := Aside0.mk (Kd.R_below HV1.out hb_)
    have n0_ := Aside0.mk (below_step HB.out hb_); have n1_ := Aside0.mk (HG.out.below hb_); have n2_ := Aside0.mk (HH.out.below hb_); clear HB; clear HG; clear HH; have HB := n0_; have HG := n1_; have HH := n2_; clear n0_ n1_ n2_; clear hb_
    by_cases q0 : a0 = b0
    · subst q0
      by_cases q1 : a1 = b1
      · subst q1
        have e1_ := R_str HV1.out
        have e2_ := R_str HV2.out
        generalize strOfNums (entB (fen 5 a0 a1 0)) = t1 at e1_ e2_
        obtain ⟨x0_, x1_, x2_⟩ := HG.out.cells; obtain ⟨y0_, y1_, y2_⟩ := HH.out.cells
        go_wp2
        go_ret
        exact ⟨rfl, HB.out⟩
      · skip
        have hn : ¬ (strOfNums (entB (fen 5 a0 a1 0))).toList = (strOfNums (entB (fen 5 a0 b1 0))).toList := fen_str (by omega) HA0.out.1 HA0.out.2 HA1.out.1 HA1.out.2 (by omega) (by omega) HB0.out.1 HB0.out.2 HB1.out.1 HB1.out.2 (by omega) (by omega) (fun h => q1 h.2.1)
        have e1_ := R_str HV1.out
        have e2_ := R_str HV2.out
        generalize strOfNums (entB (fen 5 a0 a1 0)) = t1 at e1_ hn
        generalize strOfNums (entB (fen 5 a0 b1 0)) = t2 at e2_ hn
        have hq : (t1.toList == t2.toList) = false := by simpa using hn
        clear hn
        have q1a : (a1 == b1) = false := by simpa using q1
        obtain ⟨x0_, x1_, x2_⟩ := HG.out.cells; obtain ⟨y0_, y1_, y2_⟩ := HH.out.cells
        go_wp2
        go_ret
        exact ⟨rfl, HB.out⟩
    · skip
      have hn : ¬ (strOfNums (entB (fen 5 a0 a1 0))).toList = (strOfNums (entB (fen 5 b0 b1 0))).toList := fen_str (by omega) HA0.out.1 HA0.out.2 HA1.out.1 HA1.out.2 (by omega) (by omega) HB0.out.1 HB0.out.2 HB1.out.1 HB1.out.2 (by omega) (by omega) (fun h => q0 h.1)
      have e1_ := R_str HV1.out
      have e2_ := R_str HV2.out
      generalize strOfNums (entB (fen 5 a0 a1 0)) = t1 at e1_ hn
      generalize strOfNums (entB (fen 5 b0 b1 0)) = t2 at e2_ hn
      have hq : (t1.toList == t2.toList) = false := by simpa using hn
      clear hn
      have q0a : (a0 == b0) = false := by simpa using q0
      obtain ⟨x0_, x1_, x2_⟩ := HG.out.cells; obtain ⟨y0_, y1_, y2_⟩ := HH.out.cells
      go_wp2
      go_ret
      exact ⟨rfl, HB.out⟩
end Go.Proofs.Ytedbgkbjbfdnlaa.Rc
