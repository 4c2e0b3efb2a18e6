/- The statement KvAgain. -/
import Derived.Test.YtlnpnlacalppjaaKvDeed
namespace Go.Proofs.Ytlnpnlacalppjaa.Kv
open Go Go.RowKit Go.Proofs.YtlnpnlacalppjaaW.PrintWords Go.Proofs.YtlnpnlacalppjaaW.PrintLast Go.Proofs.YtlnpnlacalppjaaW.PrintMore Go.Proofs.Ytlnpnlacalppjaa.Rw Go.Proofs.Ytlnpnlacalppjaa.Ex
set_option linter.unusedVariables false
set_option linter.unusedSimpArgs false
section
variable {w0 w w1 : World} {b1 b2 b3 g : Nat} {r1 r2 r3 : Int} {L1 L2 L3 : KL} {cs cs' : Array Value}
/-- Three stores, and a change's variable. -/
structure S3c (w0 w : World) (b1 : Nat) (L1 : KL) (b2 : Nat) (L2 : KL) (b3 : Nat) (L3 : KL) (g : Nat) (cs : Array Value) : Prop where
  s : St3 w0 w b1 1024 L1 b2 1024 L2 b3 1024 L3
  r : w.heap[g]? = some (.cells cs 30 (0, 0))
  l : w0.heap.size ≤ g
theorem KvS.far {base b : Nat} {room : Int} {v : Value} {L : KL} (h : KvS w base b room v L) {T : TypeId} (hg : w.heap[g]? = some (.cells cs T (0, 0))) (h1 : T ≠ 61) (h2 : T ≠ 65) (j : Nat) (u : Value) : KvS (w.setCell ⟨g, j, none⟩ u) base b room v L :=
  h.move fun k hk => Below.heap_setCell w ⟨g, j, none⟩ u k (fun e => by
    have e2 : k = g := e
    subst e2
    rcases hk with e | e
    · exact blk_types hg h.cell h1 e
    · obtain ⟨cur, hc⟩ := own_block h.row e
      exact blk_types hg hc h2 rfl)
theorem S3c.put (h : S3c w0 w b1 L1 b2 L2 b3 L3 g cs) (j : Nat) (u : Value) (e : cs.setIfInBounds j u = cs') : S3c w0 (w.setCell ⟨g, j, none⟩ u) b1 L1 b2 L2 b3 L3 g cs' := by
  obtain ⟨⟨⟨v1, v2, v3, k1, k2, k3, ha⟩, hl⟩, hr, hg⟩ := h
  exact ⟨⟨⟨v1, v2, v3, k1.far hr (by decide) (by decide) j u, k2.far hr (by decide) (by decide) j u, k3.far hr (by decide) (by decide) j u, ha⟩, below_set hl hg⟩, blk_put hr j u e, hg⟩
theorem S3c.below (h : S3c w0 w b1 L1 b2 L2 b3 L3 g cs) (hb : Below w.heap.size w w1) : S3c w0 w1 b1 L1 b2 L2 b3 L3 g cs := ⟨h.s.below hb, blk_below h.r hb, h.l⟩
theorem S3c.op {F : FuncId} {args : Array Value} {x : Value} {L' : KL} (h : S3c w0 w b1 L1 b2 L2 b3 L3 g cs) (hc : ∀ v, KvS w w0.heap.size b1 1024 v L1 → Calls Try.prog F args w (OpPost w0.heap.size b1 1024 v L' x w)) : Calls Try.prog F args w fun e w' => e = .returned x ∧ S3c w0 w' b1 L' b2 L2 b3 L3 g cs :=
  (h.s.opK hc).mono fun e w' hh => ⟨hh.1, hh.2.1, hh.2.2.blk h.r (by decide) (by decide), h.l⟩
theorem S3c.rot (h : S3c w0 w b1 L1 b2 L2 b3 L3 g cs) : S3c w0 w b2 L2 b3 L3 b1 L1 g cs := ⟨h.s.rot, h.r, h.l⟩
theorem S3c.bs (h : S3c w0 w b1 L1 b2 L2 b3 L3 g cs) : w0.heap.size ≤ w.heap.size := h.s.bl.size
theorem S3c.put1 (h : S3c w0 w b1 L1 b2 L2 b3 L3 g cs) (x y : Int) (hx : In64 x) (hy : In64 y) (hm : mayPut 1024 L1 x = true) : Calls Try.prog 11 #[.pointer (some ⟨b1, 0, none⟩), .int .i64 x, .int .i64 y] w fun e w' => e = .returned (.tuple #[.agg #[.int .i64 x, .int .i64 0, .int .i64 0, .int .i64 y, .bool false], .int .i64 0]) ∧ S3c w0 w' b1 (Kv.put L1 x y) b2 L2 b3 L3 g cs :=
  h.op fun v hv => by
    have := put_ok w0.heap.size b1 1024 v L1 x y w hv h.bs hx hy
    rw [if_pos hm] at this
    unfold putL at this
    rw [if_pos hm] at this
    exact this
theorem S3c.del1 (h : S3c w0 w b1 L1 b2 L2 b3 L3 g cs) (x : Int) (hm : (get L1 x).isSome = true) : Calls Try.prog 15 #[.pointer (some ⟨b1, 0, none⟩), .int .i64 x] w fun e w' => e = .returned (.tuple #[.agg #[.int .i64 x, .int .i64 0, .int .i64 0, .int .i64 0, .bool true], .int .i64 0]) ∧ S3c w0 w' b1 (del L1 x) b2 L2 b3 L3 g cs :=
  h.op fun v hv => by
    have := del_ok w0.heap.size b1 1024 v L1 x w hv h.bs
    rw [if_pos hm] at this
    exact this
theorem S3c.delN1 (h : S3c w0 w b1 L1 b2 L2 b3 L3 g cs) (x : Int) (hm : get L1 x = none) : Calls Try.prog 15 #[.pointer (some ⟨b1, 0, none⟩), .int .i64 x] w fun e w' => e = .returned (.tuple #[.agg #[.int .i64 0, .int .i64 0, .int .i64 0, .int .i64 0, .bool false], .int .i64 6]) ∧ S3c w0 w' b1 L1 b2 L2 b3 L3 g cs :=
  h.op fun v hv => by
    have := del_ok w0.heap.size b1 1024 v L1 x w hv h.bs
    rw [hm, del_none hm] at this
    exact this
theorem doP {L : KL} {x y : Int} (hm : mayPut 1024 L x = true) : doL 1024 L x 0 0 y false = put L x y ∧ doE 1024 L x 0 0 y false = 0 := by
  unfold doL doE putL
  rw [hm]
  exact ⟨rfl, rfl⟩
theorem doD {L : KL} {x : Int} (hm : (get L x).isSome = true) : doL 1024 L x 0 0 0 true = del L x ∧ doE 1024 L x 0 0 0 true = 0 := by
  unfold doL doE
  rw [hm]
  exact ⟨rfl, rfl⟩
/-- A change done in the second store. -/
theorem S3c.do2P (h : S3c w0 w b1 L1 b2 L2 b3 L3 g cs) (x y : Int) (hx : In64 x) (hy : In64 y) (hm : mayPut 1024 L2 x = true) : Calls Try.prog 16 #[.pointer (some ⟨b2, 0, none⟩), .agg #[.int .i64 x, .int .i64 0, .int .i64 0, .int .i64 y, .bool false]] w fun e w' => e = .returned (.int .i64 0) ∧ S3c w0 w' b1 L1 b2 (Kv.put L2 x y) b3 L3 g cs :=
  (h.rot.op fun v hv => by
    have := do_ok w0.heap.size b2 1024 v L2 x 0 0 y false w hv h.bs hx hy
    rw [(doP hm).1, (doP hm).2] at this
    exact this).mono fun e w' hh => ⟨hh.1, hh.2.rot.rot⟩
theorem S3c.do2D (h : S3c w0 w b1 L1 b2 L2 b3 L3 g cs) (x : Int) (hx : In64 x) (hm : (get L2 x).isSome = true) : Calls Try.prog 16 #[.pointer (some ⟨b2, 0, none⟩), .agg #[.int .i64 x, .int .i64 0, .int .i64 0, .int .i64 0, .bool true]] w fun e w' => e = .returned (.int .i64 0) ∧ S3c w0 w' b1 L1 b2 (del L2 x) b3 L3 g cs :=
  (h.rot.op fun v hv => by
    have := do_ok w0.heap.size b2 1024 v L2 x 0 0 0 true w hv h.bs hx ⟨by omega, by omega⟩
    rw [(doD hm).1, (doD hm).2] at this
    exact this).mono fun e w' hh => ⟨hh.1, hh.2.rot.rot⟩
/-- A change done in the third store. -/
theorem St3.do3P (h : St3 w0 w b1 1024 L1 b2 1024 L2 b3 1024 L3) (x y : Int) (hx : In64 x) (hy : In64 y) (hm : mayPut 1024 L3 x = true) : Calls Try.prog 16 #[.pointer (some ⟨b3, 0, none⟩), .agg #[.int .i64 x, .int .i64 0, .int .i64 0, .int .i64 y, .bool false]] w fun e w' => e = .returned (.int .i64 0) ∧ St3 w0 w' b1 1024 L1 b2 1024 L2 b3 1024 (put L3 x y) ∧ KeepT w w' :=
  (h.rot.rot.opK fun v hv => by
    have := do_ok w0.heap.size b3 1024 v L3 x 0 0 y false w hv h.bl.size hx hy
    rw [(doP hm).1, (doP hm).2] at this
    exact this).mono fun e w' hh => ⟨hh.1, hh.2.1.rot, hh.2.2⟩
end
theorem at_chg {w : World} {A : Option Addr} {n : Nat} {M : KL} (h : Kd.C k30 w A n (M.map chgOf)) {i : Nat} {p : Int × Int} (hp : M[i]? = some p) : ∃ ad, A = some ad ∧ w.cell? (ad.add (i * 5)) = some (.int .i64 p.1) ∧ w.cell? ⟨(ad.add (i * 5)).block, (ad.add (i * 5)).off + 1, none⟩ = some (.int .i64 0) ∧
    w.cell? ⟨(ad.add (i * 5)).block, (ad.add (i * 5)).off + 2, none⟩ = some (.int .i64 0) ∧ w.cell? ⟨(ad.add (i * 5)).block, (ad.add (i * 5)).off + 3, none⟩ = some (.int .i64 p.2) ∧ w.cell? ⟨(ad.add (i * 5)).block, (ad.add (i * 5)).off + 4, none⟩ = some (.bool false) := by
  have hlt := (List.getElem?_eq_some_iff.1 hp).1
  obtain ⟨ad, e, hc⟩ := h.2.2 (by have := h.1; rw [List.length_map] at this; omega)
  obtain ⟨c, hs, hk, hcell⟩ := hc i (chgOf p) (by rw [List.getElem?_map, hp]; rfl)
  have := k30_open hk
  subst this
  have q : ∀ j u, ([Value.int .i64 (chgOf p).f0, .int .i64 (chgOf p).f1, .int .i64 (chgOf p).f2, .int .i64 (chgOf p).f3, .bool (chgOf p).f4])[j]? = some u → w.cell? ((ad.add (i * 5)).add j) = some u := fun j u hu => by rw [Opn.add_add]; exact hcell j u hu
  exact ⟨ad, e, hcell 0 _ rfl, q 1 _ rfl, q 2 _ rfl, q 3 _ rfl, q 4 _ rfl⟩
theorem ch_same (L : KL) (n : Nat) (hn : L.length = n) (h1 : n ≤ 1024) (A0 : Option Addr) (c0 : Nat) (A1 : Option Addr) (c1 : Nat) (w : World) (hr0 : Kd.C k30 w A0 n (L.map chgOf)) (hc0 : n ≤ c0) (hr1 : Kd.C k30 w A1 n (L.map chgOf)) (hc1 : n ≤ c1) :
    Calls Try.prog 12 #[.slice A0 n c0, .slice A1 n c1] w fun e w' => e = .returned (.bool true) ∧ Below w.heap.size w w' := by
  subst hn
  have := changes_same (L.map chgOf) (by rw [chg_len]; omega) A0 c0 A1 c1 w (by rw [chg_len]; exact hr0) (by rw [chg_len]; exact hc0) (by rw [chg_len]; exact hr1) (by rw [chg_len]; exact hc1)
  rwa [chg_len] at this
set_option maxHeartbeats 4000000 in
set_option maxRecDepth 100000 in
theorem again_ok (A0 : Option Addr) (c0 : Nat) (l : List Deed) (w : World) (hr0 : kDeed.C w A0 l.length l) (hc0 : l.length ≤ c0) (hN : l.length ≤ 9223372036854775807) (hi : ∀ d ∈ l, DOk d) :
    Calls Try.prog 5 #[.slice A0 l.length c0] w fun e w' => e = .returned (.bool true) ∧ Below w.heap.size w w' := by
  have HCD := Aside0.mk hr0
  have HID := Aside0.mk hi
  clear hr0 hi
  have HB := Aside0.mk (Below.refl w.heap.size w)
  obtain ⟨n0, HN0⟩ : ∃ n, Aside0 (l.length = n) := ⟨_, ⟨rfl⟩⟩
  rw [HN0.out] at HCD hc0 hN ⊢
  go_enter Try.func5, Try.ntmps5
  go_wp2_with fail
  refine (shown_ok _).mono ?_
  rintro e w1 ⟨rfl, hb_⟩
  replace HB := Aside0.mk (below_step HB.out hb_)
  clear hb_
  go_wp2_with fail
  refine (new1 1024 w _ HB.out (by omega) (by omega)).mono ?_
  rintro e w2 ⟨b1, rfl, hs_, _⟩
  have HS := Aside0.mk hs_
  clear hs_ HB
  go_wp2_with fail
  refine (new2 1024 w _ HS.out (by omega) (by omega)).mono ?_
  rintro e w3 ⟨b2, rfl, hs_⟩
  replace HS := Aside0.mk hs_
  clear hs_
  go_wp2_with fail
  refine (new3 1024 w _ HS.out (by omega) (by omega)).mono ?_
  rintro e w4 ⟨b3, rfl, hs_⟩
  replace HS := Aside0.mk hs_
  clear hs_
  go_wp2_with fail
  go_loopw [10] (fun v10 wr => ∃ (i : Nat) (L : KL), i ≤ n0 ∧ i ≤ 300 ∧ v10 = .int .i64 (i : Int) ∧ Aside0 (L.length ≤ i) ∧ Aside0 (St3 w wr b1 1024 L b2 1024 L b3 1024 [])) (fun v10 _ => 300 - (intOf v10).toNat)
  case atStart => exact ⟨0, [], by omega, by omega, rfl, ⟨Nat.le_refl _⟩, HS⟩
  case round =>
    clear HS
    obtain ⟨i, L, hi, hi3, rfl, HLN, HS⟩ := hrel
    by_cases hlt : i < n0
    · have h1 : decide ((i : Int) < (n0 : Int)) = true := by simp; omega
      have h1b : decide (i < n0) = true := by simp; omega
      by_cases hl3 : i < 300
      · have h2 : decide ((i : Int) < 300) = true := by simp; omega
        have h2b : decide (i < 300) = true := by simp; omega
        obtain ⟨d, hd⟩ : ∃ d, l[i]? = some d := ⟨_, List.getElem?_eq_getElem (by rw [HN0.out]; omega)⟩
        obtain ⟨ad, rfl, _⟩ := at_deed (Kd.C_below HCD.out HS.out.bl) hd
        obtain ⟨kd, HKD⟩ : ∃ x, Aside0 (d.1 = x) := ⟨_, ⟨rfl⟩⟩
        obtain ⟨x, HX⟩ : ∃ x, Aside0 (d.2.1 = x) := ⟨_, ⟨rfl⟩⟩
        obtain ⟨y, HY⟩ : ∃ x, Aside0 (d.2.2.1 = x) := ⟨_, ⟨rfl⟩⟩
        have HCX := Aside0.mk (show ∀ W : World, Below w.heap.size w W → W.cell? (ad.add (i * 8)) = some (.int .i64 kd) ∧ W.cell? ⟨(ad.add (i * 8)).block, (ad.add (i * 8)).off + 1, none⟩ = some (.int .i64 x) ∧ W.cell? ⟨(ad.add (i * 8)).block, (ad.add (i * 8)).off + 2, none⟩ = some (.int .i64 y) from fun W hW => by
          obtain ⟨ad2, e2, h0, h1, h2, _⟩ := at_deed (Kd.C_below HCD.out hW) hd
          injection e2 with e2
          rw [e2, ← HKD.out, ← HX.out, ← HY.out]
          exact ⟨h0, h1, h2⟩)
        have HXI : Aside0 (In64 x ∧ In64 y) := ⟨by have := HID.out d (List.mem_of_getElem? hd); rw [← HX.out, ← HY.out]; exact ⟨this.key, this.val⟩⟩
        clear hd
        go_upto_region 11 with fail
        have hb_ := below_alloc (Below.refl wr.heap.size wr) (.cells #[.int .i64 0, .int .i64 0, .int .i64 0, .int .i64 0, .bool false] 30)
        have HS1 : Aside0 (S3c w (wr.alloc (.cells #[.int .i64 0, .int .i64 0, .int .i64 0, .int .i64 0, .bool false] 30)) b1 L b2 L b3 [] wr.heap.size #[.int .i64 0, .int .i64 0, .int .i64 0, .int .i64 0, .bool false]) := ⟨⟨HS.out.below hb_, heap_alloc_new wr _, HS.out.bl.size⟩⟩
        clear HS
        rename _ => HS
        generalize wr.alloc (.cells #[.int .i64 0, .int .i64 0, .int .i64 0, .int .i64 0, .bool false] 30) = w5 at HS ⊢
        generalize wr.heap.size = g at HS ⊢
        clear hb_
        have c_ := (HCX.out _ HS.out.s.bl).1
        by_cases hk1 : kd = 1
        · subst hk1
          have c2_ := (HCX.out _ HS.out.s.bl).2.1
          cases hg : get L x with
          | some z =>
            have HG : Aside0 ((get L x).isSome = true) := ⟨by rw [hg]; rfl⟩
            have HLE : Aside0 ((del L x).length ≤ i + 1) := ⟨by have := del_len_le L x; have := HLN.out; omega⟩
            clear hg
            go_wp2_with fail
            refine (HS.out.del1 x HG.out).mono ?_
            rintro e w6 ⟨rfl, hs_⟩
            replace HS := Aside0.mk hs_
            clear hs_ c_ c2_
            have d0_ := (blk_cell HS.out.r 0).trans (rfl : _ = some (.int .i64 0 : Value))
            have d1_ := (blk_cell HS.out.r 1).trans (rfl : _ = some (.int .i64 0 : Value))
            have d2_ := (blk_cell HS.out.r 2).trans (rfl : _ = some (.int .i64 0 : Value))
            have d3_ := (blk_cell HS.out.r 3).trans (rfl : _ = some (.int .i64 0 : Value))
            have d4_ := (blk_cell HS.out.r 4).trans (rfl : _ = some (.bool false : Value))
            have k0_ := blk_frozen HS.out.r 0
            have k1_ := blk_frozen HS.out.r 1
            have k2_ := blk_frozen HS.out.r 2
            have k3_ := blk_frozen HS.out.r 3
            have k4_ := blk_frozen HS.out.r 4

            go_upto_region 15 with fail
            replace HS := Aside0.mk ((((((HS.out).put 0 (.int .i64 x) (cs' := #[.int .i64 x, .int .i64 0, .int .i64 0, .int .i64 0, .bool false]) rfl).put 1 (.int .i64 0) (cs' := #[.int .i64 x, .int .i64 0, .int .i64 0, .int .i64 0, .bool false]) rfl).put 2 (.int .i64 0) (cs' := #[.int .i64 x, .int .i64 0, .int .i64 0, .int .i64 0, .bool false]) rfl).put 3 (.int .i64 0) (cs' := #[.int .i64 x, .int .i64 0, .int .i64 0, .int .i64 0, .bool false]) rfl).put 4 (.bool true) (cs' := #[.int .i64 x, .int .i64 0, .int .i64 0, .int .i64 0, .bool true]) rfl)
            clear d0_ k0_ d1_ k1_ d2_ k2_ d3_ k3_ d4_ k4_
            generalize (((((w6).setCell ⟨g, 0, none⟩ (.int .i64 x)).setCell ⟨g, 1, none⟩ (.int .i64 0)).setCell ⟨g, 2, none⟩ (.int .i64 0)).setCell ⟨g, 3, none⟩ (.int .i64 0)).setCell ⟨g, 4, none⟩ (.bool true) = w8 at HS ⊢
            have e0_ := (blk_cell HS.out.r 0).trans (rfl : _ = some (.int .i64 x : Value))
            have e1_ := (blk_cell HS.out.r 1).trans (rfl : _ = some (.int .i64 0 : Value))
            have e2_ := (blk_cell HS.out.r 2).trans (rfl : _ = some (.int .i64 0 : Value))
            have e3_ := (blk_cell HS.out.r 3).trans (rfl : _ = some (.int .i64 0 : Value))
            have e4_ := (blk_cell HS.out.r 4).trans (rfl : _ = some (.bool true : Value))
            go_wp2_with fail
            refine (HS.out.do2D x HXI.out.1 HG.out).mono ?_
            rintro e w7 ⟨rfl, hs_⟩
            replace HS := Aside0.mk hs_
            clear hs_ e0_ e1_ e2_ e3_ e4_
            go_wp2_with fail
            go_roundw
            case rel => exact ⟨i + 1, _, by omega, by omega, by go_num, HLE, ⟨HS.out.s⟩⟩
            case measure => simp [intOf]; omega
          | none =>
            have HG := Aside0.mk hg
            have HLE : Aside0 (L.length ≤ i + 1) := ⟨by have := HLN.out; omega⟩
            clear hg
            go_wp2_with fail
            refine (HS.out.delN1 x HG.out).mono ?_
            rintro e w6 ⟨rfl, hs_⟩
            replace HS := Aside0.mk hs_
            clear hs_ c_ c2_
            have d0_ := (blk_cell HS.out.r 0).trans (rfl : _ = some (.int .i64 0 : Value))
            have d1_ := (blk_cell HS.out.r 1).trans (rfl : _ = some (.int .i64 0 : Value))
            have d2_ := (blk_cell HS.out.r 2).trans (rfl : _ = some (.int .i64 0 : Value))
            have d3_ := (blk_cell HS.out.r 3).trans (rfl : _ = some (.int .i64 0 : Value))
            have d4_ := (blk_cell HS.out.r 4).trans (rfl : _ = some (.bool false : Value))
            have k0_ := blk_frozen HS.out.r 0
            have k1_ := blk_frozen HS.out.r 1
            have k2_ := blk_frozen HS.out.r 2
            have k3_ := blk_frozen HS.out.r 3
            have k4_ := blk_frozen HS.out.r 4

            go_upto_region 15 with fail
            replace HS := Aside0.mk ((((((HS.out).put 0 (.int .i64 0) (cs' := #[.int .i64 0, .int .i64 0, .int .i64 0, .int .i64 0, .bool false]) rfl).put 1 (.int .i64 0) (cs' := #[.int .i64 0, .int .i64 0, .int .i64 0, .int .i64 0, .bool false]) rfl).put 2 (.int .i64 0) (cs' := #[.int .i64 0, .int .i64 0, .int .i64 0, .int .i64 0, .bool false]) rfl).put 3 (.int .i64 0) (cs' := #[.int .i64 0, .int .i64 0, .int .i64 0, .int .i64 0, .bool false]) rfl).put 4 (.bool false) (cs' := #[.int .i64 0, .int .i64 0, .int .i64 0, .int .i64 0, .bool false]) rfl)
            clear d0_ k0_ d1_ k1_ d2_ k2_ d3_ k3_ d4_ k4_
            generalize (((((w6).setCell ⟨g, 0, none⟩ (.int .i64 0)).setCell ⟨g, 1, none⟩ (.int .i64 0)).setCell ⟨g, 2, none⟩ (.int .i64 0)).setCell ⟨g, 3, none⟩ (.int .i64 0)).setCell ⟨g, 4, none⟩ (.bool false) = w8 at HS ⊢
            have e0_ := (blk_cell HS.out.r 0).trans (rfl : _ = some (.int .i64 0 : Value))
            have e1_ := (blk_cell HS.out.r 1).trans (rfl : _ = some (.int .i64 0 : Value))
            have e2_ := (blk_cell HS.out.r 2).trans (rfl : _ = some (.int .i64 0 : Value))
            have e3_ := (blk_cell HS.out.r 3).trans (rfl : _ = some (.int .i64 0 : Value))
            have e4_ := (blk_cell HS.out.r 4).trans (rfl : _ = some (.bool false : Value))

            go_wp2_with fail
            go_roundw
            case rel => exact ⟨i + 1, _, by omega, by omega, by go_num, HLE, ⟨HS.out.s⟩⟩
            case measure => simp [intOf]; omega
        · have hk1b : (kd == 1) = false := by simpa using hk1
          have HM : Aside0 (mayPut 1024 L x = true) := ⟨may_small (by have := HLN.out; omega) x⟩
          have HLE : Aside0 ((put L x y).length ≤ i + 1) := ⟨by have := len_put_le HS.out.s.one.kv.1 x y; have := HLN.out; omega⟩
          clear hk1
          go_wp2_with fail
          clear c_
          refine start_ (n := 17) (S := fun w' => Below w.heap.size w w') (ds := []) #[false, false, false, false, false, false, false, false, false, false, false, false, false, false, false, false, false] (by kernel_rfl) rfl rfl (below_drew HS.out.s.bl) (fun hHeld => ?_)
          refine pure_ (i := 0) (N := some 74) (v := ?_) (a' := ?_) #[true, false, false, false, false, false, false, false, false, false, false, false, false, false, false, false, false] rfl rfl (by kernel_rfl) (fun _ _ _ h => h) (Or.inl ⟨by rfl, ?_⟩) ?_ ?_
          rotate_left
          · intro w'
            go_simp
            with_reducible rfl
          rotate_left
          · simp only [Act.put, List.setIfInBounds_toArray, List.set_cons_zero, List.set_cons_succ, i64_w, i32_w]
            rfl
          refine pure_ (i := 1) (N := some 75) (v := ?_) (a' := ?_) #[true, true, false, false, false, false, false, false, false, false, false, false, false, false, false, false, false] rfl rfl (by kernel_rfl) (fun _ _ _ h => h) (Or.inl ⟨by rfl, ?_⟩) ?_ ?_
          rotate_left
          · intro w'
            go_simp
            with_reducible rfl
          rotate_left
          · simp only [Act.put, List.setIfInBounds_toArray, List.set_cons_zero, List.set_cons_succ, i64_w, i32_w]
            rfl
          refine pure_ (i := 2) (N := some 76) (v := ?_) (a' := ?_) #[true, true, true, false, false, false, false, false, false, false, false, false, false, false, false, false, false] rfl rfl (by kernel_rfl) (fun _ _ _ h => h) (Or.inl ⟨by rfl, ?_⟩) ?_ ?_
          rotate_left
          · intro w'
            go_simp
            with_reducible rfl
          rotate_left
          · simp only [Act.put, List.setIfInBounds_toArray, List.set_cons_zero, List.set_cons_succ, i64_w, i32_w]
            rfl
          refine pure_ (i := 3) (N := some 77) (v := ?_) (a' := ?_) #[true, true, true, true, false, false, false, false, false, false, false, false, false, false, false, false, false] rfl rfl (by kernel_rfl) (fun _ _ _ h => h) (Or.inl ⟨by rfl, ?_⟩) ?_ ?_
          rotate_left
          · intro w'
            go_simp
            with_reducible rfl
          rotate_left
          · simp only [Act.put, List.setIfInBounds_toArray, List.set_cons_zero, List.set_cons_succ, i64_w, i32_w]
            rfl
          refine pure_ (i := 4) (N := some 78) (v := ?_) (a' := ?_) #[true, true, true, true, true, false, false, false, false, false, false, false, false, false, false, false, false] rfl rfl (by kernel_rfl) (fun _ _ _ h => h) (Or.inl ⟨by rfl, ?_⟩) ?_ ?_
          rotate_left
          · intro w'
            go_simp
            with_reducible rfl
          rotate_left
          · simp only [Act.put, List.setIfInBounds_toArray, List.set_cons_zero, List.set_cons_succ, i64_w, i32_w]
            rfl
          refine pure_ (i := 6) (N := some 80) (v := ?_) (a' := ?_) #[true, true, true, true, true, false, true, false, false, false, false, false, false, false, false, false, false] rfl rfl (by kernel_rfl) (fun _ _ _ h => h) (Or.inl ⟨by rfl, ?_⟩) ?_ ?_
          rotate_left
          · intro w'
            go_simp
            with_reducible rfl
          rotate_left
          · simp only [Act.put, List.setIfInBounds_toArray, List.set_cons_zero, List.set_cons_succ, i64_w, i32_w]
            rfl
          refine pure_ (i := 7) (N := some 81) (v := ?_) (a' := ?_) #[true, true, true, true, true, false, true, true, false, false, false, false, false, false, false, false, false] rfl rfl (by kernel_rfl) (fun _ _ _ h => h) (Or.inl ⟨by rfl, ?_⟩) ?_ ?_
          rotate_left
          · intro w'
            go_simp
            with_reducible rfl
          rotate_left
          · simp only [Act.put, List.setIfInBounds_toArray, List.set_cons_zero, List.set_cons_succ, i64_w, i32_w]
            rfl
          refine pure_ (i := 8) (N := some 82) (v := ?_) (a' := ?_) #[true, true, true, true, true, false, true, true, true, false, false, false, false, false, false, false, false] rfl rfl (by kernel_rfl) (fun _ _ _ h => h) (Or.inl ⟨by rfl, ?_⟩) ?_ ?_
          rotate_left
          · intro w'
            go_simp
            with_reducible rfl
          rotate_left
          · simp only [Act.put, List.setIfInBounds_toArray, List.set_cons_zero, List.set_cons_succ, i64_w, i32_w]
            rfl
          refine pure_ (i := 9) (N := some 83) (v := ?_) (a' := ?_) #[true, true, true, true, true, false, true, true, true, true, false, false, false, false, false, false, false] rfl rfl (by kernel_rfl) (fun _ _ _ h => h) (Or.inl ⟨by rfl, ?_⟩) ?_ ?_
          rotate_left
          · intro w'
            go_simp
            with_reducible rfl
          rotate_left
          · simp only [Act.put, List.setIfInBounds_toArray, List.set_cons_zero, List.set_cons_succ, i64_w, i32_w]
            rfl
          refine take_ (i := 5) (N := some 79) (v := ?_) (a' := ?_) #[true, true, true, true, true, true, true, true, true, true, false, false, false, false, false, false, false] rfl rfl (by kernel_rfl) (fun _ _ _ h => h) (Or.inl ⟨by rfl, ?_⟩) hHeld ?_ ?_
          rotate_left
          · intro w' hS
            have c_ := (HCX.out _ hS).2.1
            go_simp
            with_reducible rfl
          rotate_left
          · simp only [Act.put, List.setIfInBounds_toArray, List.set_cons_zero, List.set_cons_succ, i64_w, i32_w]
            rfl
          refine take_ (i := 10) (N := some 84) (v := ?_) (a' := ?_) #[true, true, true, true, true, true, true, true, true, true, true, false, false, false, false, false, false] rfl rfl (by kernel_rfl) (fun _ _ _ h => h) (Or.inl ⟨by rfl, ?_⟩) hHeld ?_ ?_
          rotate_left
          · intro w' hS
            have c_ := (HCX.out _ hS).2.2
            go_simp
            with_reducible rfl
          rotate_left
          · simp only [Act.put, List.setIfInBounds_toArray, List.set_cons_zero, List.set_cons_succ, i64_w, i32_w]
            rfl
          refine one_ (i := 11) (N := some 85) #[true, true, true, true, true, true, true, true, true, true, true, true, false, false, false, false, false] rfl rfl (by kernel_rfl) (by simp) (fun K hK => ?_)
          replace HS := Aside0.mk (HS.out.below (below_drew (Below.refl _ _)))
          refine goes_ Try.func11 (by kernel_rfl) rfl #[.pointer (some ⟨b1, 0, none⟩), .int .i64 x, .int .i64 y] (by rfl) rfl rfl (by simp only [List.map_toArray, List.map_cons, List.map_nil]; rfl) ?_
          with_reducible refine (HS.out.put1 x y HXI.out.1 HXI.out.2 HM.out).mono ?_
          rintro e w5 ⟨rfl, hs_⟩
          refine ⟨_, rfl, ?_⟩
          refine hK.out _ _ (hs_.s.bl) (fun hHeld => ?_)
          clear hK K
          refine norm_ (a' := ?_) ?_ ?_
          rotate_left
          · show Act.put _ (some 85) _ = _
            simp only [Act.put, List.setIfInBounds_toArray, List.set_cons_zero, List.set_cons_succ, i64_w, i32_w]
            rfl
          replace HS := Aside0.mk hs_
          clear hs_
          refine pure_ (i := 12) (N := some 73) (v := ?_) (a' := ?_) #[true, true, true, true, true, true, true, true, true, true, true, true, true, false, false, false, false] rfl rfl (by kernel_rfl) (fun _ _ _ h => h) (Or.inl ⟨by rfl, ?_⟩) ?_ ?_
          rotate_left
          · intro w'
            go_simp
            with_reducible rfl
          rotate_left
          · simp only [Act.put, List.setIfInBounds_toArray, List.set_cons_zero, List.set_cons_succ, i64_w, i32_w]
            rfl
          refine pure_ (i := 13) (N := some 86) (v := ?_) (a' := ?_) #[true, true, true, true, true, true, true, true, true, true, true, true, true, true, false, false, false] rfl rfl (by kernel_rfl) (fun _ _ _ h => h) (Or.inl ⟨by rfl, ?_⟩) ?_ ?_
          rotate_left
          · intro w'
            go_simp
            with_reducible rfl
          rotate_left
          · simp only [Act.put, List.setIfInBounds_toArray, List.set_cons_zero, List.set_cons_succ, i64_w, i32_w]
            rfl
          refine pure_ (i := 14) (N := some 87) (v := ?_) (a' := ?_) #[true, true, true, true, true, true, true, true, true, true, true, true, true, true, true, false, false] rfl rfl (by kernel_rfl) (fun _ _ _ h => h) (Or.inl ⟨by rfl, ?_⟩) ?_ ?_
          rotate_left
          · intro w'
            go_simp
            with_reducible rfl
          rotate_left
          · simp only [Act.put, List.setIfInBounds_toArray, List.set_cons_zero, List.set_cons_succ, i64_w, i32_w]
            rfl
          refine one_ (i := 15) (N := none) #[true, true, true, true, true, true, true, true, true, true, true, true, true, true, true, true, false] rfl rfl (by kernel_rfl) (by simp) (fun K hK => ?_)
          have d0_ := (blk_cell HS.out.r 0).trans (rfl : _ = some (.int .i64 0 : Value))
          have d1_ := (blk_cell HS.out.r 1).trans (rfl : _ = some (.int .i64 0 : Value))
          have d2_ := (blk_cell HS.out.r 2).trans (rfl : _ = some (.int .i64 0 : Value))
          have d3_ := (blk_cell HS.out.r 3).trans (rfl : _ = some (.int .i64 0 : Value))
          have d4_ := (blk_cell HS.out.r 4).trans (rfl : _ = some (.bool false : Value))
          have k0_ := blk_frozen HS.out.r 0
          have k1_ := blk_frozen HS.out.r 1
          have k2_ := blk_frozen HS.out.r 2
          have k3_ := blk_frozen HS.out.r 3
          have k4_ := blk_frozen HS.out.r 4
          refine skip_ (w1 := (((((w5).setCell ⟨g, 0, none⟩ (.int .i64 x)).setCell ⟨g, 1, none⟩ (.int .i64 0)).setCell ⟨g, 2, none⟩ (.int .i64 0)).setCell ⟨g, 3, none⟩ (.int .i64 y)).setCell ⟨g, 4, none⟩ (.bool false)) (by rfl) rfl (by go_simp; done) ?_
          refine hK.out _ _ (((((((HS.out).put 0 (.int .i64 x) (cs' := #[.int .i64 x, .int .i64 0, .int .i64 0, .int .i64 0, .bool false]) rfl).put 1 (.int .i64 0) (cs' := #[.int .i64 x, .int .i64 0, .int .i64 0, .int .i64 0, .bool false]) rfl).put 2 (.int .i64 0) (cs' := #[.int .i64 x, .int .i64 0, .int .i64 0, .int .i64 0, .bool false]) rfl).put 3 (.int .i64 y) (cs' := #[.int .i64 x, .int .i64 0, .int .i64 0, .int .i64 y, .bool false]) rfl).put 4 (.bool false) (cs' := #[.int .i64 x, .int .i64 0, .int .i64 0, .int .i64 y, .bool false]) rfl).s.bl) (fun hHeld => ?_)
          clear hK K
          replace HS := Aside0.mk ((((((HS.out).put 0 (.int .i64 x) (cs' := #[.int .i64 x, .int .i64 0, .int .i64 0, .int .i64 0, .bool false]) rfl).put 1 (.int .i64 0) (cs' := #[.int .i64 x, .int .i64 0, .int .i64 0, .int .i64 0, .bool false]) rfl).put 2 (.int .i64 0) (cs' := #[.int .i64 x, .int .i64 0, .int .i64 0, .int .i64 0, .bool false]) rfl).put 3 (.int .i64 y) (cs' := #[.int .i64 x, .int .i64 0, .int .i64 0, .int .i64 y, .bool false]) rfl).put 4 (.bool false) (cs' := #[.int .i64 x, .int .i64 0, .int .i64 0, .int .i64 y, .bool false]) rfl)
          clear d0_ k0_ d1_ k1_ d2_ k2_ d3_ k3_ d4_ k4_ hHeld
          generalize (((((w5).setCell ⟨g, 0, none⟩ (.int .i64 x)).setCell ⟨g, 1, none⟩ (.int .i64 0)).setCell ⟨g, 2, none⟩ (.int .i64 0)).setCell ⟨g, 3, none⟩ (.int .i64 y)).setCell ⟨g, 4, none⟩ (.bool false) = w6 at HS ⊢
          refine pure_ (i := 16) (N := some 12) (v := ?_) (a' := ?_) #[true, true, true, true, true, true, true, true, true, true, true, true, true, true, true, true, true] rfl rfl (by kernel_rfl) (fun _ _ _ h => h) (Or.inl ⟨by rfl, ?_⟩) ?_ ?_
          rotate_left
          · intro w'
            go_simp
            with_reducible rfl
          rotate_left
          · simp only [Act.put, List.setIfInBounds_toArray, List.set_cons_zero, List.set_cons_succ, i64_w, i32_w]
            rfl
          refine done_ (by kernel_rfl) ?_

          have e0_ := (blk_cell HS.out.r 0).trans (rfl : _ = some (.int .i64 x : Value))
          have e1_ := (blk_cell HS.out.r 1).trans (rfl : _ = some (.int .i64 0 : Value))
          have e2_ := (blk_cell HS.out.r 2).trans (rfl : _ = some (.int .i64 0 : Value))
          have e3_ := (blk_cell HS.out.r 3).trans (rfl : _ = some (.int .i64 y : Value))
          have e4_ := (blk_cell HS.out.r 4).trans (rfl : _ = some (.bool false : Value))
          go_wp2_with fail
          refine (HS.out.do2P x y HXI.out.1 HXI.out.2 HM.out).mono ?_
          rintro e w7 ⟨rfl, hs_⟩
          replace HS := Aside0.mk hs_
          clear hs_ e0_ e1_ e2_ e3_ e4_
          go_wp2_with fail
          go_roundw
          case rel => exact ⟨i + 1, _, by omega, by omega, by go_num, HLE, ⟨HS.out.s⟩⟩
          case measure => simp [intOf]; omega
      · have h2 : decide ((i : Int) < 300) = false := by simp; omega
        have h2b : decide (i < 300) = false := by simp; omega
        clear hlt hl3
        go_wp2_with fail
        refine (HS.out.one.list).mono ?_
        rintro e w9 ⟨v0, rfl, hr_, hb_⟩
        obtain ⟨n, HN⟩ : ∃ n, Aside0 (L.length = n) := ⟨_, ⟨rfl⟩⟩
        have HKV := Aside0.mk HS.out.one.kv
        have hn1 : n ≤ 1024 := by rw [← HN.out]; exact HKV.out.2.2
        replace HS := Aside0.mk (HS.out.below hb_)
        replace hr_ := Kd.R_lower hr_ (Nat.zero_le _)
        obtain ⟨A9, c9, rfl⟩ := Kd.R_slice hr_
        have HR := Aside0.mk hr_
        rw [chg_len, HN.out] at HR ⊢
        have hc9 : n ≤ c9 := by have := (Kd.R_reads' hr_).2.1; rwa [chg_len, HN.out] at this
        clear hr_ hb_
        have hw0 : wrap64 ((n : Int) - 1) = (n : Int) - 1 := by unfold wrap64; omega
        go_wp2_with fail
        go_loopw [14] (fun v14 wr => ∃ j : Nat, j ≤ n ∧ v14 = .int .i64 ((j : Int) - 1) ∧ Aside0 (St3 w wr b1 1024 L b2 1024 L b3 1024 (L.drop j)) ∧ Aside0 (Kd.R k30 30 wr 0 (fun _ => True) (.slice A9 n c9) (L.map chgOf))) (fun v14 _ => (intOf v14 + 1).toNat)
        case atStart => exact ⟨n, by omega, rfl, ⟨by rw [List.drop_of_length_le (by rw [HN.out]; omega)]; exact HS.out⟩, HR⟩
        case round =>
          clear HS HR
          obtain ⟨j, hj, rfl, HS, HR⟩ := hrel
          by_cases hj0 : j = 0
          · subst hj0
            rw [List.drop_zero] at HS
            have HR9 := Aside0.mk (Kd.R_reads' HR.out).2.2
            rw [chg_len, HN.out] at HR9
            go_wp2_with fail
            refine ((HS.out.rot.below (by repeat (first | exact Below.refl _ _ | apply below_alloc | (refine below_set ?_ (Nat.le_refl _))))).one.list).mono ?_
            rintro e w11 ⟨v1, rfl, hr_, hb_⟩
            replace HS := Aside0.mk (HS.out.below (below_step (by repeat (first | exact Below.refl _ _ | apply below_alloc | (refine below_set ?_ (Nat.le_refl _)))) hb_))
            replace HR9 := Aside0.mk (Kd.C_below HR9.out (below_step (by repeat (first | exact Below.refl _ _ | apply below_alloc | (refine below_set ?_ (Nat.le_refl _)))) hb_))
            obtain ⟨A11, c11, rfl⟩ := Kd.R_slice hr_
            have HR11 := Aside0.mk (Kd.R_reads' hr_).2.2
            have hc11 := (Kd.R_reads' hr_).2.1
            rw [chg_len, HN.out] at HR11 hc11 ⊢
            clear hr_ hb_
            go_wp2_with fail
            refine (ch_same L n HN.out hn1 A11 c11 A9 c9 _ (Kd.C_below HR11.out (by repeat (first | exact Below.refl _ _ | apply below_alloc | (refine below_set ?_ (Nat.le_refl _))))) hc11 (Kd.C_below HR9.out (by repeat (first | exact Below.refl _ _ | apply below_alloc | (refine below_set ?_ (Nat.le_refl _))))) hc9).mono ?_
            rintro e w12 ⟨rfl, hb_⟩
            replace HS := Aside0.mk (HS.out.below (below_step (by repeat (first | exact Below.refl _ _ | apply below_alloc | (refine below_set ?_ (Nat.le_refl _)))) hb_))
            replace HR9 := Aside0.mk (Kd.C_below HR9.out (below_step (by repeat (first | exact Below.refl _ _ | apply below_alloc | (refine below_set ?_ (Nat.le_refl _)))) hb_))
            clear hb_ HR11 hc11
            go_wp2_with fail
            refine ((HS.out.rot.rot.below (by repeat (first | exact Below.refl _ _ | apply below_alloc | (refine below_set ?_ (Nat.le_refl _))))).one.list).mono ?_
            rintro e w13 ⟨v2, rfl, hr_, hb_⟩
            replace HS := Aside0.mk (HS.out.below (below_step (by repeat (first | exact Below.refl _ _ | apply below_alloc | (refine below_set ?_ (Nat.le_refl _)))) hb_))
            replace HR9 := Aside0.mk (Kd.C_below HR9.out (below_step (by repeat (first | exact Below.refl _ _ | apply below_alloc | (refine below_set ?_ (Nat.le_refl _)))) hb_))
            obtain ⟨A11, c11, rfl⟩ := Kd.R_slice hr_
            have HR11 := Aside0.mk (Kd.R_reads' hr_).2.2
            have hc11 := (Kd.R_reads' hr_).2.1
            rw [chg_len, HN.out] at HR11 hc11 ⊢
            clear hr_ hb_
            go_wp2_with fail
            refine (ch_same L n HN.out hn1 A11 c11 A9 c9 _ (Kd.C_below HR11.out (by repeat (first | exact Below.refl _ _ | apply below_alloc | (refine below_set ?_ (Nat.le_refl _))))) hc11 (Kd.C_below HR9.out (by repeat (first | exact Below.refl _ _ | apply below_alloc | (refine below_set ?_ (Nat.le_refl _))))) hc9).mono ?_
            rintro e w14 ⟨rfl, hb_⟩
            replace HS := Aside0.mk (HS.out.below (below_step (by repeat (first | exact Below.refl _ _ | apply below_alloc | (refine below_set ?_ (Nat.le_refl _)))) hb_))
            clear hb_
            go_wp2_with fail
            go_ret
            exact ⟨rfl, HS.out.bl⟩
          · obtain ⟨i, rfl⟩ : ∃ i, j = i + 1 := ⟨j - 1, by omega⟩
            have hiv : ((i + 1 : Nat) : Int) - 1 = (i : Int) := by omega
            rw [hiv]
            clear hiv hj0
            obtain ⟨p, hp⟩ : ∃ p, L[i]? = some p := ⟨_, List.getElem?_eq_getElem (by rw [HN.out]; omega)⟩
            have HR9 := Aside0.mk (Kd.R_reads' HR.out).2.2
            rw [chg_len, HN.out] at HR9
            obtain ⟨ad, rfl, x0, x1, x2, x3, x4⟩ := at_chg HR9.out hp
            have HPD : Aside0 (put (L.drop (i + 1)) p.1 p.2 = L.drop i) := ⟨by obtain ⟨h, rfl⟩ := List.getElem?_eq_some_iff.1 hp; exact put_drop HKV.out.1 h⟩
            have HPI := Aside0.mk (HKV.out.2.1 p (List.mem_of_getElem? hp))
            have HMP : Aside0 (mayPut 1024 (L.drop (i + 1)) p.1 = true) := ⟨may_small (by rw [List.length_drop, HN.out]; omega) p.1⟩
            obtain ⟨y1, y2⟩ := p
            simp only at HPD HPI HMP x0 x3
            have hi2 : (i : Int) < (n : Int) := by omega
            clear hp
            go_wp2_with fail
            refine (HS.out.do3P y1 y2 HPI.out.1 HPI.out.2 HMP.out).mono ?_
            rintro e w10 ⟨rfl, hs_, kx_⟩
            rw [HPD.out] at hs_
            replace HS := Aside0.mk hs_
            replace HR := Aside0.mk (kx_.R HR.out)
            clear hs_ kx_ x0 x1 x2 x3 x4
            go_wp2_with fail
            go_roundw
            case rel => exact ⟨i, by omega, by go_num, HS, HR⟩
            case measure => simp [intOf]
    · obtain rfl : i = n0 := by omega
      clear hlt
      go_wp2_with fail
      refine (HS.out.one.list).mono ?_
      rintro e w9 ⟨v0, rfl, hr_, hb_⟩
      obtain ⟨n, HN⟩ : ∃ n, Aside0 (L.length = n) := ⟨_, ⟨rfl⟩⟩
      have HKV := Aside0.mk HS.out.one.kv
      have hn1 : n ≤ 1024 := by rw [← HN.out]; exact HKV.out.2.2
      replace HS := Aside0.mk (HS.out.below hb_)
      replace hr_ := Kd.R_lower hr_ (Nat.zero_le _)
      obtain ⟨A9, c9, rfl⟩ := Kd.R_slice hr_
      have HR := Aside0.mk hr_
      rw [chg_len, HN.out] at HR ⊢
      have hc9 : n ≤ c9 := by have := (Kd.R_reads' hr_).2.1; rwa [chg_len, HN.out] at this
      clear hr_ hb_
      have hw0 : wrap64 ((n : Int) - 1) = (n : Int) - 1 := by unfold wrap64; omega
      go_wp2_with fail
      go_loopw [14] (fun v14 wr => ∃ j : Nat, j ≤ n ∧ v14 = .int .i64 ((j : Int) - 1) ∧ Aside0 (St3 w wr b1 1024 L b2 1024 L b3 1024 (L.drop j)) ∧ Aside0 (Kd.R k30 30 wr 0 (fun _ => True) (.slice A9 n c9) (L.map chgOf))) (fun v14 _ => (intOf v14 + 1).toNat)
      case atStart => exact ⟨n, by omega, rfl, ⟨by rw [List.drop_of_length_le (by rw [HN.out]; omega)]; exact HS.out⟩, HR⟩
      case round =>
        clear HS HR
        obtain ⟨j, hj, rfl, HS, HR⟩ := hrel
        by_cases hj0 : j = 0
        · subst hj0
          rw [List.drop_zero] at HS
          have HR9 := Aside0.mk (Kd.R_reads' HR.out).2.2
          rw [chg_len, HN.out] at HR9
          go_wp2_with fail
          refine ((HS.out.rot.below (by repeat (first | exact Below.refl _ _ | apply below_alloc | (refine below_set ?_ (Nat.le_refl _))))).one.list).mono ?_
          rintro e w11 ⟨v1, rfl, hr_, hb_⟩
          replace HS := Aside0.mk (HS.out.below (below_step (by repeat (first | exact Below.refl _ _ | apply below_alloc | (refine below_set ?_ (Nat.le_refl _)))) hb_))
          replace HR9 := Aside0.mk (Kd.C_below HR9.out (below_step (by repeat (first | exact Below.refl _ _ | apply below_alloc | (refine below_set ?_ (Nat.le_refl _)))) hb_))
          obtain ⟨A11, c11, rfl⟩ := Kd.R_slice hr_
          have HR11 := Aside0.mk (Kd.R_reads' hr_).2.2
          have hc11 := (Kd.R_reads' hr_).2.1
          rw [chg_len, HN.out] at HR11 hc11 ⊢
          clear hr_ hb_
          go_wp2_with fail
          refine (ch_same L n HN.out hn1 A11 c11 A9 c9 _ (Kd.C_below HR11.out (by repeat (first | exact Below.refl _ _ | apply below_alloc | (refine below_set ?_ (Nat.le_refl _))))) hc11 (Kd.C_below HR9.out (by repeat (first | exact Below.refl _ _ | apply below_alloc | (refine below_set ?_ (Nat.le_refl _))))) hc9).mono ?_
          rintro e w12 ⟨rfl, hb_⟩
          replace HS := Aside0.mk (HS.out.below (below_step (by repeat (first | exact Below.refl _ _ | apply below_alloc | (refine below_set ?_ (Nat.le_refl _)))) hb_))
          replace HR9 := Aside0.mk (Kd.C_below HR9.out (below_step (by repeat (first | exact Below.refl _ _ | apply below_alloc | (refine below_set ?_ (Nat.le_refl _)))) hb_))
          clear hb_ HR11 hc11
          go_wp2_with fail
          refine ((HS.out.rot.rot.below (by repeat (first | exact Below.refl _ _ | apply below_alloc | (refine below_set ?_ (Nat.le_refl _))))).one.list).mono ?_
          rintro e w13 ⟨v2, rfl, hr_, hb_⟩
          replace HS := Aside0.mk (HS.out.below (below_step (by repeat (first | exact Below.refl _ _ | apply below_alloc | (refine below_set ?_ (Nat.le_refl _)))) hb_))
          replace HR9 := Aside0.mk (Kd.C_below HR9.out (below_step (by repeat (first | exact Below.refl _ _ | apply below_alloc | (refine below_set ?_ (Nat.le_refl _)))) hb_))
          obtain ⟨A11, c11, rfl⟩ := Kd.R_slice hr_
          have HR11 := Aside0.mk (Kd.R_reads' hr_).2.2
          have hc11 := (Kd.R_reads' hr_).2.1
          rw [chg_len, HN.out] at HR11 hc11 ⊢
          clear hr_ hb_
          go_wp2_with fail
          refine (ch_same L n HN.out hn1 A11 c11 A9 c9 _ (Kd.C_below HR11.out (by repeat (first | exact Below.refl _ _ | apply below_alloc | (refine below_set ?_ (Nat.le_refl _))))) hc11 (Kd.C_below HR9.out (by repeat (first | exact Below.refl _ _ | apply below_alloc | (refine below_set ?_ (Nat.le_refl _))))) hc9).mono ?_
          rintro e w14 ⟨rfl, hb_⟩
          replace HS := Aside0.mk (HS.out.below (below_step (by repeat (first | exact Below.refl _ _ | apply below_alloc | (refine below_set ?_ (Nat.le_refl _)))) hb_))
          clear hb_
          go_wp2_with fail
          go_ret
          exact ⟨rfl, HS.out.bl⟩
        · obtain ⟨i, rfl⟩ : ∃ i, j = i + 1 := ⟨j - 1, by omega⟩
          have hiv : ((i + 1 : Nat) : Int) - 1 = (i : Int) := by omega
          rw [hiv]
          clear hiv hj0
          obtain ⟨p, hp⟩ : ∃ p, L[i]? = some p := ⟨_, List.getElem?_eq_getElem (by rw [HN.out]; omega)⟩
          have HR9 := Aside0.mk (Kd.R_reads' HR.out).2.2
          rw [chg_len, HN.out] at HR9
          obtain ⟨ad, rfl, x0, x1, x2, x3, x4⟩ := at_chg HR9.out hp
          have HPD : Aside0 (put (L.drop (i + 1)) p.1 p.2 = L.drop i) := ⟨by obtain ⟨h, rfl⟩ := List.getElem?_eq_some_iff.1 hp; exact put_drop HKV.out.1 h⟩
          have HPI := Aside0.mk (HKV.out.2.1 p (List.mem_of_getElem? hp))
          have HMP : Aside0 (mayPut 1024 (L.drop (i + 1)) p.1 = true) := ⟨may_small (by rw [List.length_drop, HN.out]; omega) p.1⟩
          obtain ⟨y1, y2⟩ := p
          simp only at HPD HPI HMP x0 x3
          have hi2 : (i : Int) < (n : Int) := by omega
          clear hp
          go_wp2_with fail
          refine (HS.out.do3P y1 y2 HPI.out.1 HPI.out.2 HMP.out).mono ?_
          rintro e w10 ⟨rfl, hs_, kx_⟩
          rw [HPD.out] at hs_
          replace HS := Aside0.mk hs_
          replace HR := Aside0.mk (kx_.R HR.out)
          clear hs_ kx_ x0 x1 x2 x3 x4
          go_wp2_with fail
          go_roundw
          case rel => exact ⟨i, by omega, by go_num, HS, HR⟩
          case measure => simp [intOf]
end Go.Proofs.Ytlnpnlacalppjaa.Kv
