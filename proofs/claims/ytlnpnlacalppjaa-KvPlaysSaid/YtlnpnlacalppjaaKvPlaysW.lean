/- The statement KvPlays. -/
import Derived.Test.YtlnpnlacalppjaaKvRef
import Derived.Test.YtlnpnlacalppjaaKvAgainW
namespace Go.Proofs.Ytlnpnlacalppjaa.Kv
open Go Go.RowKit Go.Proofs.YtlnpnlacalppjaaW.PrintWords Go.Proofs.YtlnpnlacalppjaaW.PrintLast Go.Proofs.YtlnpnlacalppjaaW.PrintMore Go.Proofs.Ytlnpnlacalppjaa.Rw Go.Proofs.Ytlnpnlacalppjaa.Ex
set_option linter.unusedVariables false
set_option linter.unusedSimpArgs false
section
variable {w0 w w1 : World} {b gx gd : Nat} {room : Int} {L L2 : KL} {X X' D : Array Value} {v : Value} {A0 : Option Addr} {c0 n : Nat}
structure PM (w0 w : World) (b gx gd : Nat) (room : Int) (L : KL) (X D : Array Value) : Prop where
  s : St1 w0 w b room L
  x : w.heap[gx]? = some (.cells X 49 (0, 0))
  d : w.heap[gd]? = some (.cells D 41 (0, 0))
  lx : w0.heap.size ≤ gx
theorem PM.below (h : PM w0 w b gx gd room L X D) (hb : Below w.heap.size w w1) : PM w0 w1 b gx gd room L X D := ⟨h.s.below hb, blk_below h.x hb, blk_below h.d hb, h.lx⟩
theorem PM.op {F : FuncId} {args : Array Value} {x : Value} {L' : KL} (h : PM w0 w b gx gd room L X D) (hc : ∀ v, KvS w w0.heap.size b room v L → Calls Try.prog F args w (OpPost w0.heap.size b room v L' x w)) : Calls Try.prog F args w fun e w' => e = .returned x ∧ PM w0 w' b gx gd room L' X D ∧ KeepT w w' :=
  (h.s.opK hc).mono fun e w' hh => ⟨hh.1, ⟨hh.2.1, hh.2.2.blk h.x (by decide) (by decide), hh.2.2.blk h.d (by decide) (by decide), h.lx⟩, hh.2.2⟩
theorem R_type {base : Nat} {ok : Nat → Prop} {xs : List S30} (hr : Kd.R k30 30 w base ok v xs) {k : Nat} (hk : some k = v.ownBlock) : ∃ cs, w.heap[k]? = some (.cells cs 30 (0, 0)) := by
  obtain ⟨inner, ho⟩ := Kd.R_own hr
  exact own_block ho hk
theorem R_own1 {base : Nat} {ok : Nat → Prop} {xs : List S30} (hr : Kd.R k30 30 w base ok v xs) : Kd.R k30 30 w base (fun k => some k = v.ownBlock) v xs := by
  obtain ⟨h0, h1⟩ := hr
  exact ⟨fun k hk => hk.symm, h1.imp_ fun x cs hm => by rw [k30_openM hm]; exact k30_mkM _ _ _ x⟩
theorem PM.refk (h : PM w0 w b gx gd room L X D) {base : Nat} {ok : Nat → Prop} {xs : List S30} (hr : Kd.R k30 30 w base ok v xs) (hb : Below w0.heap.size w0 w1) (hk : Kept w w1 fun k => some k = v.ownBlock) : PM w0 w1 b gx gd room L X D := by
  have far : ∀ (k : Nat) (cs : Array Value) (T : TypeId) (fr : Nat × Nat), w.heap[k]? = some (.cells cs T fr) → T ≠ 30 → w1.heap[k]? = some (.cells cs T fr) := fun k cs T fr hc hT =>
    (hk.2 k (Array.getElem?_eq_some_iff.1 hc).1 (fun e => by obtain ⟨cs2, h2⟩ := R_type hr e; exact blk_types hc h2 hT rfl)).trans hc
  obtain ⟨⟨⟨sv, hs⟩, hl⟩, hx, hd, hlx⟩ := h
  refine ⟨⟨⟨sv, hs.move fun k hk => ?_⟩, hb⟩, far _ _ _ _ hx (by decide), far _ _ _ _ hd (by decide), hlx⟩
  rcases hk with rfl | hk
  · rw [far _ _ _ _ hs.cell (by decide), hs.cell]
  · obtain ⟨cur, hc⟩ := own_block hs.row hk
    rw [far _ _ _ _ hc (by decide), hc]
/-- What a call of the document's leaves. -/
def RPost (w0 : World) (v : Value) (room : Int) (L2 : KL) (f : Value → Value) (w : World) (e : Ending) (w' : World) : Prop :=
  ∃ A' c', e = .returned (f (.agg #[.int .i64 room, .slice A' L2.length c'])) ∧ Kd.R k30 30 w' w0.heap.size (fun _ => True) (.slice A' L2.length c') (L2.map chgOf) ∧ Below w0.heap.size w0 w' ∧ Kept w w' fun k => some k = v.ownBlock
theorem RPost.of {f : Value → Value} {v1 : Value} {e : Ending} {P : Nat → Prop} (he : e = .returned (f (.agg #[.int .i64 room, v1]))) (hr : Kd.R k30 30 w1 w0.heap.size P v1 (L2.map chgOf)) (hb : Below w0.heap.size w0 w1) (hk : Kept w w1 fun k => some k = v.ownBlock) : RPost w0 v room L2 f w e w1 := by
  obtain ⟨A, c, rfl⟩ := Kd.R_slice hr
  rw [chg_len] at he hr
  exact ⟨A, c, he, Kd.R_mono hr (fun _ _ => trivial), hb, hk⟩
theorem rput (hr : Kd.R k30 30 w w0.heap.size (fun _ => True) v (L.map chgOf)) (hb : Below w0.heap.size w0 w) (hi : Rise L) (hl : L.length ≤ 1024) (k x : Int) :
    Calls Try.prog 19 #[.agg #[.int .i64 room, v], .int .i64 k, .int .i64 x] w (RPost w0 v room (putL room L k x) (fun q => .tuple #[q, .agg #[.int .i64 (ex30 (mayPut room L k) k 0), .int .i64 0, .int .i64 0, .int .i64 (ex30 (mayPut room L k) x 0), .bool false], .int .i64 (ex30 (mayPut room L k) 0 3)]) w) := by
  obtain ⟨n, hn⟩ := Ev.rounds (put_ev L room k x hi hl)
  refine (tidemillref12_Put.calls n room _ v _ k x _ _ _ _ _ _ _ _ w0 w hb (R_own1 hr) hn).mono ?_
  rintro e w' ⟨v1, he, h1, h2, h3⟩
  exact RPost.of he h1 h2 h3
theorem rdel (hr : Kd.R k30 30 w w0.heap.size (fun _ => True) v (L.map chgOf)) (hb : Below w0.heap.size w0 w) (hi : Rise L) (hl : L.length ≤ 1024) (k : Int) :
    Calls Try.prog 20 #[.agg #[.int .i64 room, v], .int .i64 k] w (RPost w0 v room (del L k) (fun q => .tuple #[q, .agg #[.int .i64 (ex30 (get L k).isSome k 0), .int .i64 0, .int .i64 0, .int .i64 0, .bool (get L k).isSome], .int .i64 (ex30 (get L k).isSome 0 6)]) w) := by
  obtain ⟨n, hn⟩ := Ev.rounds (del_ev L room k hi hl)
  refine (tidemillref12_Del.calls n room _ v _ k _ _ _ _ _ _ _ _ w0 w hb (R_own1 hr) hn).mono ?_
  rintro e w' ⟨v1, he, h1, h2, h3⟩
  exact RPost.of he h1 h2 h3
theorem rdo (hr : Kd.R k30 30 w w0.heap.size (fun _ => True) v (L.map chgOf)) (hb : Below w0.heap.size w0 w) (hi : Rise L) (hl : L.length ≤ 1024) (ck cf ct cv : Int) (cd : Bool) :
    Calls Try.prog 21 #[.agg #[.int .i64 room, v], .agg #[.int .i64 ck, .int .i64 cf, .int .i64 ct, .int .i64 cv, .bool cd]] w (RPost w0 v room (doL room L ck cf ct cv cd) (fun q => .tuple #[q, .int .i64 (doE room L ck cf ct cv cd)]) w) := by
  obtain ⟨n, hn⟩ := Ev.rounds (do_ev L room ck cf ct cv cd hi hl)
  refine (tidemillref12_Do.calls n room _ v _ ck cf ct cv cd _ _ _ w0 w hb (R_own1 hr) hn).mono ?_
  rintro e w' ⟨v1, he, h1, h2, h3⟩
  exact RPost.of he h1 h2 h3
theorem rget (hr : Kd.C k30 w A0 n (L.map chgOf)) (hn : L.length = n) (hc : n ≤ c0) (hl : L.length ≤ 1024) (k : Int) :
    Calls Try.prog 22 #[.agg #[.int .i64 room, .slice A0 n c0], .int .i64 k] w fun e w' => e = .returned (.tuple #[.int .i64 ((get L k).getD 0), .bool (get L k).isSome]) ∧ Below w.heap.size w w' := by
  subst hn
  obtain ⟨m, hm⟩ := Ev.rounds (get_ev L room k hl)
  have := tidemillref12_Get.calls m room A0 c0 (L.map chgOf) k _ _ w (by rw [chg_len]; exact hr) (by rw [chg_len]; exact hc) hm
  rwa [chg_len] at this
/-- The same of the program's store, in the same words. -/
theorem PM.pput (h : PM w0 w b gx gd room L X D) (k x : Int) (hk : In64 k) (hx : In64 x) : Calls Try.prog 11 #[.pointer (some ⟨b, 0, none⟩), .int .i64 k, .int .i64 x] w fun e w' => e = .returned (.tuple #[.agg #[.int .i64 (ex30 (mayPut room L k) k 0), .int .i64 0, .int .i64 0, .int .i64 (ex30 (mayPut room L k) x 0), .bool false], .int .i64 (ex30 (mayPut room L k) 0 3)]) ∧ PM w0 w' b gx gd room (putL room L k x) X D ∧ KeepT w w' :=
  h.op fun v hv => by
    have := put_ok w0.heap.size b room v L k x w hv h.s.bs hk hx
    unfold ex30
    cases hm : mayPut room L k <;> rw [hm] at this <;> exact this
theorem PM.pdel (h : PM w0 w b gx gd room L X D) (k : Int) : Calls Try.prog 15 #[.pointer (some ⟨b, 0, none⟩), .int .i64 k] w fun e w' => e = .returned (.tuple #[.agg #[.int .i64 (ex30 (get L k).isSome k 0), .int .i64 0, .int .i64 0, .int .i64 0, .bool (get L k).isSome], .int .i64 (ex30 (get L k).isSome 0 6)]) ∧ PM w0 w' b gx gd room (del L k) X D ∧ KeepT w w' :=
  h.op fun v hv => by
    have := del_ok w0.heap.size b room v L k w hv h.s.bs
    unfold ex30
    cases hm : (get L k).isSome <;> rw [hm] at this <;> exact this
theorem PM.pdo (h : PM w0 w b gx gd room L X D) (ck cf ct cv : Int) (cd : Bool) (hk : In64 ck) (hx : In64 cv) : Calls Try.prog 16 #[.pointer (some ⟨b, 0, none⟩), .agg #[.int .i64 ck, .int .i64 cf, .int .i64 ct, .int .i64 cv, .bool cd]] w fun e w' => e = .returned (.int .i64 (doE room L ck cf ct cv cd)) ∧ PM w0 w' b gx gd room (doL room L ck cf ct cv cd) X D ∧ KeepT w w' :=
  h.op fun v hv => do_ok w0.heap.size b room v L ck cf ct cv cd w hv h.s.bs hk hx
theorem PM.setx (h : PM w0 w b gx gd room L X D) (j : Nat) (u : Value) (e : X.setIfInBounds j u = X') : PM w0 (w.setCell ⟨gx, j, none⟩ u) b gx gd room L X' D := by
  obtain ⟨⟨⟨sv, hs⟩, hl⟩, hx, hd, hlx⟩ := h
  exact ⟨⟨⟨sv, hs.far hx (by decide) (by decide) j u⟩, below_set hl hlx⟩, blk_put hx j u e, blk_far hd (p := ⟨gx, j, none⟩) (blk_types hd hx (by decide)) u, hlx⟩
end
theorem St1.lenB {w0 w : World} {b n : Nat} {room : Int} {L : KL} (h : St1 w0 w b room L) (hn : L.length = n) : Calls Try.prog 14 #[.pointer (some ⟨b, 0, none⟩)] w fun e w' => e = .returned (.int .i64 (n : Int)) ∧ Below w.heap.size w w' := by
  subst hn
  refine h.len.mono ?_
  rintro e w' ⟨rfl, rfl⟩
  exact ⟨rfl, Below.refl _ _⟩
theorem St1.listB {w0 w : World} {b n : Nat} {room : Int} {L : KL} (h : St1 w0 w b room L) (hn : L.length = n) : Calls Try.prog 13 #[.pointer (some ⟨b, 0, none⟩)] w fun e w' => ∃ A c, e = .returned (.slice A n c) ∧ Kd.C k30 w' A n (L.map chgOf) ∧ n ≤ c ∧ Below w.heap.size w w' := by
  subst hn
  refine h.list.mono ?_
  rintro e w' ⟨v, rfl, hr, hb⟩
  obtain ⟨A, c, rfl⟩ := Kd.R_slice hr
  have h1 := (Kd.R_reads' hr).2.2
  have h2 := (Kd.R_reads' hr).2.1
  rw [chg_len] at h1 h2 ⊢
  exact ⟨A, c, rfl, h1, h2, hb⟩
theorem stronger_ {P : Program} {ops : Array Oper} {Q : Exit → Act → World → Prop} {md : Region.Mode} {S : World → Prop} (S' : World → Prop) (hS : ∀ w, S' w → S w) : ∀ {fuel : Nat} {l : Array Bool} {a : Act} {w : World},
    S' w → wpAnyLast P md ops Q S' [] fuel l a w → wpAnyLast P md ops Q S [] fuel l a w
  | 0, _, _, _, _, h => h
  | fuel + 1, l, a, w, h0, h => ⟨h.1, fun i hi => wpOp_mono (fun a' w' h' => ⟨fun hn _ => hS w' (h'.1 hn h0), stronger_ S' hS (h'.1 (by simp) h0) h'.2⟩) (h.2 i hi)⟩
structure PX (w0 w : World) (b gx : Nat) (room : Int) (L : KL) (A : Option Addr) (c : Nat) : Prop where
  s : St1 w0 w b room L
  x : w.heap[gx]? = some (.cells #[.int .i64 room, .slice A L.length c] 49 (0, 0))
  lx : w0.heap.size ≤ gx
  r : Kd.R k30 30 w w0.heap.size (fun _ => True) (.slice A L.length c) (L.map chgOf)
set_option maxHeartbeats 4000000 in
set_option maxRecDepth 100000 in
theorem plays_ok (room : Int) (A0 : Option Addr) (c0 : Nat) (l : List Deed) (w : World) (hr0 : kDeed.C w A0 l.length l) (hc0 : l.length ≤ c0) (hN : l.length ≤ 9223372036854775807) (hi : ∀ d ∈ l, DOk d) :
    Calls Try.prog 7 #[.int .i64 room, .slice A0 l.length c0] w fun e w' => e = .returned (.bool true) ∧ Below w.heap.size w w' := by
  have HCD := Aside0.mk hr0
  have HID := Aside0.mk hi
  clear hr0 hi
  have HB := Aside0.mk (Below.refl w.heap.size w)
  obtain ⟨n0, HN0⟩ : ∃ n, Aside0 (l.length = n) := ⟨_, ⟨rfl⟩⟩
  rw [HN0.out] at HCD hc0 hN ⊢
  by_cases hbad : room < 1 ∨ 1024 < room
  · have HBAD := Aside0.mk hbad
    have HNF : Aside0 (tidemillref12_New.f room = some (0, [], 1)) := ⟨by
      unfold tidemillref12_New.f
      rcases hbad with h | h
      · rw [if_pos h]
      · rw [if_neg (by omega), if_pos (by omega)]⟩
    clear hbad
    go_enter Try.func7, Try.ntmps7
    go_wp2_with fail
    refine (shown_ok _).mono ?_
    rintro e w1 ⟨rfl, hb_⟩
    replace HB := Aside0.mk (below_step HB.out hb_)
    clear hb_
    go_wp2_with fail
    refine (new_no room _ HBAD.out).mono ?_
    rintro e w2 ⟨rfl, rfl⟩
    go_wp2_with fail
    refine (tidemillref12_New.calls room 0 [] 1 _ HNF.out).mono ?_
    rintro e w2 ⟨v1, rfl, hr_, hb_⟩
    replace HB := Aside0.mk (below_step HB.out hb_)
    obtain ⟨A1, c1, rfl⟩ := Kd.R_slice hr_
    clear hb_ hr_
    go_wp2_with fail
    go_ret
    exact ⟨rfl, below_step HB.out (by repeat (first | exact Below.refl _ _ | apply below_alloc | (refine below_set ?_ (Nat.le_refl _))))⟩
  · have h1 : 1 ≤ room := by omega
    have h2 : room ≤ 1024 := by omega
    have HNF : Aside0 (tidemillref12_New.f room = some (room, [], 0)) := ⟨by unfold tidemillref12_New.f; rw [if_neg (by omega), if_neg (by omega)]⟩
    clear hbad
    go_enter Try.func7, Try.ntmps7
    go_wp2_with fail
    refine (shown_ok _).mono ?_
    rintro e w1 ⟨rfl, hb_⟩
    replace HB := Aside0.mk (below_step HB.out hb_)
    clear hb_
    go_wp2_with fail
    refine (new1 room w _ HB.out h1 h2).mono ?_
    rintro e w2 ⟨b, rfl, hs_, _⟩
    have HS := Aside0.mk hs_
    clear hs_ HB
    go_wp2_with fail
    refine (tidemillref12_New.calls room room [] 0 _ HNF.out).mono ?_
    rintro e w3 ⟨v1, rfl, hr_, hb_⟩
    replace hr_ := Kd.R_lower hr_ HS.out.bs
    replace HS := Aside0.mk (HS.out.below hb_)
    obtain ⟨A1, c1, rfl⟩ := Kd.R_slice hr_
    have HR := Aside0.mk hr_
    clear hb_ hr_
    go_upto_region 4 with fail
    simp only [List.length_nil] at HR ⊢
    have hbx_ := below_alloc (Below.refl w3.heap.size w3) (.cells #[.int .i64 room, .slice A1 0 c1] 49)
    have HX : Aside0 (PX w (w3.alloc (.cells #[.int .i64 room, .slice A1 0 c1] 49)) b w3.heap.size room [] A1 c1) := ⟨⟨HS.out.below hbx_, heap_alloc_new w3 _, HS.out.bs, Kd.R_below HR.out hbx_⟩⟩
    clear HS HR
    generalize w3.alloc (.cells #[.int .i64 room, .slice A1 0 c1] 49) = w4 at HX hbx_ ⊢
    generalize w3.heap.size = gx at HX ⊢
    clear hbx_
    go_wp2_with fail
    go_loopw [10] (fun v10 wr => ∃ (i : Nat) (L : KL) (A : Option Addr) (c : Nat), i ≤ n0 ∧ i ≤ 300 ∧ v10 = .int .i64 (i : Int) ∧ Aside0 (PX w wr b gx room L A c)) (fun v10 _ => 300 - (intOf v10).toNat)
    case atStart => exact ⟨0, [], A1, c1, by omega, by omega, rfl, HX⟩
    case round =>
      clear HX
      obtain ⟨i, L, A, c, hi, hi3, rfl, HX⟩ := hrel
      have hlen := HX.out.s.kv.2.2
      obtain ⟨n, HN⟩ : ∃ n, Aside0 (L.length = n) := ⟨_, ⟨rfl⟩⟩
      by_cases hlt : i < n0
      · have h1 : decide ((i : Int) < (n0 : Int)) = true := by simp; omega
        have h1b : decide (i < n0) = true := by simp; omega
        by_cases hl3 : i < 300
        · have h2 : decide ((i : Int) < 300) = true := by simp; omega
          have h2b : decide (i < 300) = true := by simp; omega
          obtain ⟨d, hd⟩ : ∃ d, l[i]? = some d := ⟨_, List.getElem?_eq_getElem (by rw [HN0.out]; omega)⟩
          have HDO := Aside0.mk (HID.out d (List.mem_of_getElem? hd))
          obtain ⟨ad, rfl, c0_, c1_, c2_, c3_, c4_, c5_, c6_, c7_⟩ := at_deed (Kd.C_below HCD.out HX.out.s.bl) hd
          obtain ⟨kd, x, y, ck, cf, ct, cv, cd⟩ := d
          simp only at c0_ c1_ c2_ c3_ c4_ c5_ c6_ c7_
          clear hd
          go_upto_region 12 with fail
          clear c0_ c1_ c2_ c3_ c4_ c5_ c6_ c7_
          have hb_ := below_alloc (Below.refl wr.heap.size wr) (.cells #[.int .i64 kd, .int .i64 x, .int .i64 y, .int .i64 ck, .int .i64 cf, .int .i64 ct, .int .i64 cv, .bool cd] 41)
          have HP : Aside0 (PM w (wr.alloc (.cells #[.int .i64 kd, .int .i64 x, .int .i64 y, .int .i64 ck, .int .i64 cf, .int .i64 ct, .int .i64 cv, .bool cd] 41)) b gx wr.heap.size room L #[.int .i64 room, .slice A L.length c] #[.int .i64 kd, .int .i64 x, .int .i64 y, .int .i64 ck, .int .i64 cf, .int .i64 ct, .int .i64 cv, .bool cd]) := ⟨⟨HX.out.s.below hb_, blk_below HX.out.x hb_, heap_alloc_new wr _, HX.out.lx⟩⟩
          have HR := Aside0.mk (Kd.R_below HX.out.r hb_)
          have HKV := Aside0.mk HX.out.s.kv
          clear HX
          generalize wr.alloc (.cells #[.int .i64 kd, .int .i64 x, .int .i64 y, .int .i64 ck, .int .i64 cf, .int .i64 ct, .int .i64 cv, .bool cd] 41) = w5 at HP HR hb_ ⊢
          generalize wr.heap.size = gd at HP ⊢
          clear hb_
          rw [HN.out] at HP HR hlen
          have e0_ := (blk_cell HP.out.d 0).trans (rfl : _ = some (.int .i64 kd : Value))
          have e1_ := (blk_cell HP.out.d 1).trans (rfl : _ = some (.int .i64 x : Value))
          by_cases hk0 : kd = 0
          · subst hk0
            obtain ⟨L2, HL2⟩ : ∃ y_, Aside0 (putL room L x y = y_) := ⟨_, ⟨rfl⟩⟩
            obtain ⟨p0, HP0⟩ : ∃ y_, Aside0 (ex30 (mayPut room L x) x 0 = y_) := ⟨_, ⟨rfl⟩⟩
            obtain ⟨p3, HP3⟩ : ∃ y_, Aside0 (ex30 (mayPut room L x) y 0 = y_) := ⟨_, ⟨rfl⟩⟩
            obtain ⟨er, HER⟩ : ∃ y_, Aside0 (ex30 (mayPut room L x) 0 3 = y_) := ⟨_, ⟨rfl⟩⟩
            obtain ⟨n2, HN2⟩ : ∃ y_, Aside0 (L2.length = y_) := ⟨_, ⟨rfl⟩⟩
            have e2_ := (blk_cell HP.out.d 2).trans (rfl : _ = some (.int .i64 y : Value))
            go_wp2_with fail
            refine (HP.out.pput x y HDO.out.key HDO.out.val).mono ?_
            rintro e w6 ⟨he_, hp_, kx_⟩
            rw [HP0.out, HP3.out, HER.out] at he_
            rw [HL2.out] at hp_
            subst he_
            replace HP := Aside0.mk hp_
            replace HR := Aside0.mk (kx_.R HR.out)
            clear hp_ kx_ e0_ e1_ e2_
            go_upto_region 19 with fail
            have hb_ := below_alloc (Below.refl w6.heap.size w6) (.cells #[.int .i64 p0, .int .i64 0, .int .i64 0, .int .i64 p3, .bool false] 30)
            have HA : Aside0 ((w6.alloc (.cells #[.int .i64 p0, .int .i64 0, .int .i64 0, .int .i64 p3, .bool false] 30)).heap[w6.heap.size]? = some (.cells #[.int .i64 p0, .int .i64 0, .int .i64 0, .int .i64 p3, .bool false] 30 (0, 0)) ∧ some w6.heap.size ≠ (Value.slice A n c).ownBlock) := ⟨⟨heap_alloc_new w6 _, fun e => by have := Kd.R_lt HR.out _ e.symm; omega⟩⟩
            replace HP := Aside0.mk (HP.out.below hb_)
            replace HR := Aside0.mk (Kd.R_below HR.out hb_)
            generalize w6.alloc (.cells #[.int .i64 p0, .int .i64 0, .int .i64 0, .int .i64 p3, .bool false] 30) = w7 at HP HR HA hb_ ⊢
            generalize w6.heap.size = ga at HA ⊢
            clear hb_
            have e1_ := (blk_cell HP.out.d 1).trans (rfl : _ = some (.int .i64 x : Value))
            have e2_ := (blk_cell HP.out.d 2).trans (rfl : _ = some (.int .i64 y : Value))
            have x0_ := (blk_cell HP.out.x 0).trans (rfl : _ = some (.int .i64 room : Value))
            have x1_ := (blk_cell HP.out.x 1).trans (rfl : _ = some (.slice A n c : Value))
            go_wp2_with fail
            refine (rput (L := L) HR.out HP.out.s.bl HKV.out.1 HKV.out.2.2 x y).mono ?_
            rintro e w8 ⟨A', c', he_, hr_, hb_, hk_⟩
            simp only [HP0.out, HP3.out, HER.out, HL2.out] at he_ hr_
            rw [HN2.out] at he_ hr_
            subst he_
            replace HP := Aside0.mk (HP.out.refk HR.out hb_ hk_)
            replace HA := Aside0.mk ((hk_.2 _ (Array.getElem?_eq_some_iff.1 HA.out.1).1 HA.out.2).trans HA.out.1)
            replace HR := Aside0.mk hr_
            clear hr_ hb_ hk_
            clear x0_ x1_ e1_ e2_
            go_upto_region 20 with fail
            have hb_ : Below w8.heap.size w8 ((w8.alloc (.cells #[.int .i64 room, .slice A' n2 c'] 49)).alloc (.cells #[.int .i64 p0, .int .i64 0, .int .i64 0, .int .i64 p3, .bool false] 30)) := below_alloc (below_alloc (Below.refl _ _) _) _
            have HNX : Aside0 (((w8.alloc (.cells #[.int .i64 room, .slice A' n2 c'] 49)).alloc (.cells #[.int .i64 p0, .int .i64 0, .int .i64 0, .int .i64 p3, .bool false] 30)).heap[w8.heap.size]? = some (.cells #[.int .i64 room, .slice A' n2 c'] 49 (0, 0))) := ⟨blk_below (heap_alloc_new w8 _) (below_alloc (Below.refl _ _) _)⟩
            have hs9_ : (w8.alloc (.cells #[.int .i64 room, .slice A' n2 c'] 49)).heap.size = w8.heap.size + 1 := by simp
            have HBB : Aside0 (((w8.alloc (.cells #[.int .i64 room, .slice A' n2 c'] 49)).alloc (.cells #[.int .i64 p0, .int .i64 0, .int .i64 0, .int .i64 p3, .bool false] 30)).heap[w8.heap.size + 1]? = some (.cells #[.int .i64 p0, .int .i64 0, .int .i64 0, .int .i64 p3, .bool false] 30 (0, 0))) := ⟨by rw [← hs9_]; exact heap_alloc_new _ _⟩
            replace HA := Aside0.mk (blk_below HA.out hb_)
            replace HP := Aside0.mk (HP.out.below hb_)
            replace HR := Aside0.mk (Kd.R_below HR.out hb_)
            skip
            generalize (w8.alloc (.cells #[.int .i64 room, .slice A' n2 c'] 49)).alloc (.cells #[.int .i64 p0, .int .i64 0, .int .i64 0, .int .i64 p3, .bool false] 30) = w9 at HP HR HA HNX HBB hb_ ⊢
            generalize w8.heap.size = gn at HNX HBB ⊢
            clear hb_ hs9_
            have x0_ := (blk_cell HP.out.x 0).trans (rfl : _ = some (.int .i64 room : Value))
            have x1_ := (blk_cell HP.out.x 1).trans (rfl : _ = some (.slice A n c : Value))
            have kx0_ := blk_frozen HP.out.x 0
            have kx1_ := blk_frozen HP.out.x 1
            have n0_ := (blk_cell HNX.out 0).trans (rfl : _ = some (.int .i64 room : Value))
            have n1_ := (blk_cell HNX.out 1).trans (rfl : _ = some (.slice A' n2 c' : Value))
            go_upto_region 21 with fail
            replace HA := Aside0.mk (blk_far (p := ⟨gx, 1, none⟩) (blk_far (p := ⟨gx, 0, none⟩) HA.out (blk_types HA.out HP.out.x (by decide)) (.int .i64 room)) (blk_types HA.out HP.out.x (by decide)) (.slice A' n2 c'))
            replace HBB := Aside0.mk (blk_far (p := ⟨gx, 1, none⟩) (blk_far (p := ⟨gx, 0, none⟩) HBB.out (blk_types HBB.out HP.out.x (by decide)) (.int .i64 room)) (blk_types HBB.out HP.out.x (by decide)) (.slice A' n2 c'))
            replace HR := Aside0.mk (Kd.R_set (Kd.R_set HR.out HP.out.x (by decide) 0 (.int .i64 room)) (HP.out.setx 0 (.int .i64 room) (X' := #[.int .i64 room, .slice A n c]) rfl).x (by decide) 1 (.slice A' n2 c'))
            replace HP := Aside0.mk ((HP.out.setx 0 (.int .i64 room) (X' := #[.int .i64 room, .slice A n c]) rfl).setx 1 (.slice A' n2 c') (X' := #[.int .i64 room, .slice A' n2 c']) rfl)
            clear x0_ x1_ kx0_ kx1_ n0_ n1_ HNX
            generalize (w9.setCell ⟨gx, 0, none⟩ (.int .i64 room)).setCell ⟨gx, 1, none⟩ (.slice A' n2 c') = w10 at HP HR HA HBB ⊢
            have a0_ := (blk_cell HA.out 0).trans (rfl : _ = some (.int .i64 p0 : Value))
            have a1_ := (blk_cell HA.out 1).trans (rfl : _ = some (.int .i64 0 : Value))
            have a2_ := (blk_cell HA.out 2).trans (rfl : _ = some (.int .i64 0 : Value))
            have a3_ := (blk_cell HA.out 3).trans (rfl : _ = some (.int .i64 p3 : Value))
            have a4_ := (blk_cell HA.out 4).trans (rfl : _ = some (.bool false : Value))
            have b0_ := (blk_cell HBB.out 0).trans (rfl : _ = some (.int .i64 p0 : Value))
            have b1_ := (blk_cell HBB.out 1).trans (rfl : _ = some (.int .i64 0 : Value))
            have b2_ := (blk_cell HBB.out 2).trans (rfl : _ = some (.int .i64 0 : Value))
            have b3_ := (blk_cell HBB.out 3).trans (rfl : _ = some (.int .i64 p3 : Value))
            have b4_ := (blk_cell HBB.out 4).trans (rfl : _ = some (.bool false : Value))
            have her_ : (er != er) = false := by simp
            go_wp2_with fail
            go_upto_region 35 with fail
            clear her_ a0_ b0_ a1_ b1_ a2_ b2_ a3_ b3_ a4_ b4_
            have hnn_ : ((n2 : Int) != (n2 : Int)) = false := by simp
            have hnm_ : (n2 != n2) = false := by simp
            refine start_ (n := 6) (S := fun w' => Below w10.heap.size w10 w') (ds := []) #[false, false, false, false, false, false] (by kernel_rfl) rfl rfl (below_drew (Below.refl _ _)) (fun hHeld => ?_)
            refine pure_ (i := 0) (N := some 164) (v := ?_) (a' := ?_) #[true, false, false, false, false, false] rfl rfl (by kernel_rfl) (fun _ _ _ h => h) (Or.inl ⟨by rfl, ?_⟩) ?_ ?_
            rotate_left
            · intro w'
              go_simp
              with_reducible rfl
            rotate_left
            · simp only [Act.put, List.setIfInBounds_toArray, List.set_cons_zero, List.set_cons_succ, i64_w, i32_w]
              rfl
            refine pure_ (i := 2) (N := some 166) (v := ?_) (a' := ?_) #[true, false, true, false, false, false] rfl rfl (by kernel_rfl) (fun _ _ _ h => h) (Or.inl ⟨by rfl, ?_⟩) ?_ ?_
            rotate_left
            · intro w'
              go_simp
              with_reducible rfl
            rotate_left
            · simp only [Act.put, List.setIfInBounds_toArray, List.set_cons_zero, List.set_cons_succ, i64_w, i32_w]
              rfl
            refine take_ (i := 3) (N := some 167) (v := ?_) (a' := ?_) #[true, false, true, true, false, false] rfl rfl (by kernel_rfl) (fun _ _ _ h => h) (Or.inl ⟨by rfl, ?_⟩) hHeld ?_ ?_
            rotate_left
            · intro w' hS
              have c_ := (blk_cell (blk_below HP.out.x hS) 1).trans (rfl : _ = some (.slice A' n2 c' : Value))
              go_simp
              with_reducible rfl
            rotate_left
            · simp only [Act.put, List.setIfInBounds_toArray, List.set_cons_zero, List.set_cons_succ, i64_w, i32_w]
              rfl
            refine pure_ (i := 4) (N := some 168) (v := ?_) (a' := ?_) #[true, false, true, true, true, false] rfl rfl (by kernel_rfl) (fun _ _ _ h => h) (Or.inl ⟨by rfl, ?_⟩) ?_ ?_
            rotate_left
            · intro w'
              go_simp
              with_reducible rfl
            rotate_left
            · simp only [Act.put, List.setIfInBounds_toArray, List.set_cons_zero, List.set_cons_succ, i64_w, i32_w]
              rfl
            refine one_ (i := 1) (N := some 165) #[true, true, true, true, true, false] rfl rfl (by kernel_rfl) (by simp) (fun K hK => ?_)
            refine goes_ Try.func14 (by kernel_rfl) rfl #[.pointer (some ⟨b, 0, none⟩)] (by rfl) rfl rfl (by simp only [List.map_toArray, List.map_cons, List.map_nil]; rfl) ?_
            with_reducible refine ((HP.out.s.below hHeld).lenB HN2.out).mono ?_
            rintro e w11 ⟨rfl, hb_⟩
            refine ⟨_, rfl, ?_⟩
            replace hb_ := below_step hHeld hb_
            refine hK.out _ _ hb_ (fun _ => ?_)
            clear hK K hHeld
            refine norm_ (a' := ?_) ?_ ?_
            rotate_left
            · show Act.put _ (some 165) _ = _
              simp only [Act.put, List.setIfInBounds_toArray, List.set_cons_zero, List.set_cons_succ, i64_w, i32_w]
              rfl
            refine stronger_ (S' := fun w' => Below w11.heap.size w11 w') (fun w' h => below_step hb_ h) (Below.refl _ _) ?_
            have hHeld := Below.refl w11.heap.size w11
            replace HP := Aside0.mk (HP.out.below hb_)
            replace HR := Aside0.mk (Kd.R_below HR.out hb_)
            clear hb_
            refine pure_ (i := 5) (N := some 169) (v := ?_) (a' := ?_) #[true, true, true, true, true, true] rfl rfl (by kernel_rfl) (fun _ _ _ h => h) (Or.inl ⟨by rfl, ?_⟩) ?_ ?_
            rotate_left
            · intro w'
              go_simp
              with_reducible rfl
            rotate_left
            · simp only [Act.put, List.setIfInBounds_toArray, List.set_cons_zero, List.set_cons_succ, i64_w, i32_w]
              rfl
            refine done_ (by kernel_rfl) ?_
            go_wp2_with fail
            go_roundw
            case rel => exact ⟨i + 1, L2, A', c', by omega, by omega, by go_num, ⟨⟨HP.out.s, by rw [HN2.out]; exact HP.out.x, HP.out.lx, by rw [HN2.out]; exact HR.out⟩⟩⟩
            case measure => simp [intOf]; omega
          · by_cases hk1 : kd = 1
            · subst hk1
              obtain ⟨L2, HL2⟩ : ∃ y_, Aside0 (del L x = y_) := ⟨_, ⟨rfl⟩⟩
              obtain ⟨p0, HP0⟩ : ∃ y_, Aside0 (ex30 (get L x).isSome x 0 = y_) := ⟨_, ⟨rfl⟩⟩
              obtain ⟨er, HER⟩ : ∃ y_, Aside0 (ex30 (get L x).isSome 0 6 = y_) := ⟨_, ⟨rfl⟩⟩
              obtain ⟨pd, HPD⟩ : ∃ y_, Aside0 ((get L x).isSome = y_) := ⟨_, ⟨rfl⟩⟩
              rw [HPD.out] at HP0 HER
              obtain ⟨n2, HN2⟩ : ∃ y_, Aside0 (L2.length = y_) := ⟨_, ⟨rfl⟩⟩
              go_wp2_with fail
              refine (HP.out.pdel x).mono ?_
              rintro e w6 ⟨he_, hp_, kx_⟩
              rw [HPD.out, HP0.out, HER.out] at he_
              rw [HL2.out] at hp_
              subst he_
              replace HP := Aside0.mk hp_
              replace HR := Aside0.mk (kx_.R HR.out)
              clear hp_ kx_ e0_ e1_
              go_upto_region 25 with fail
              have hb_ := below_alloc (Below.refl w6.heap.size w6) (.cells #[.int .i64 p0, .int .i64 0, .int .i64 0, .int .i64 0, .bool pd] 30)
              have HA : Aside0 ((w6.alloc (.cells #[.int .i64 p0, .int .i64 0, .int .i64 0, .int .i64 0, .bool pd] 30)).heap[w6.heap.size]? = some (.cells #[.int .i64 p0, .int .i64 0, .int .i64 0, .int .i64 0, .bool pd] 30 (0, 0)) ∧ some w6.heap.size ≠ (Value.slice A n c).ownBlock) := ⟨⟨heap_alloc_new w6 _, fun e => by have := Kd.R_lt HR.out _ e.symm; omega⟩⟩
              replace HP := Aside0.mk (HP.out.below hb_)
              replace HR := Aside0.mk (Kd.R_below HR.out hb_)
              generalize w6.alloc (.cells #[.int .i64 p0, .int .i64 0, .int .i64 0, .int .i64 0, .bool pd] 30) = w7 at HP HR HA hb_ ⊢
              generalize w6.heap.size = ga at HA ⊢
              clear hb_
              have e1_ := (blk_cell HP.out.d 1).trans (rfl : _ = some (.int .i64 x : Value))
              have x0_ := (blk_cell HP.out.x 0).trans (rfl : _ = some (.int .i64 room : Value))
              have x1_ := (blk_cell HP.out.x 1).trans (rfl : _ = some (.slice A n c : Value))
              go_wp2_with fail
              refine (rdel (L := L) HR.out HP.out.s.bl HKV.out.1 HKV.out.2.2 x).mono ?_
              rintro e w8 ⟨A', c', he_, hr_, hb_, hk_⟩
              simp only [HPD.out, HP0.out, HER.out, HL2.out] at he_ hr_
              rw [HN2.out] at he_ hr_
              subst he_
              replace HP := Aside0.mk (HP.out.refk HR.out hb_ hk_)
              replace HA := Aside0.mk ((hk_.2 _ (Array.getElem?_eq_some_iff.1 HA.out.1).1 HA.out.2).trans HA.out.1)
              replace HR := Aside0.mk hr_
              clear hr_ hb_ hk_
              clear x0_ x1_ e1_
              go_upto_region 26 with fail
              have hb_ : Below w8.heap.size w8 ((w8.alloc (.cells #[.int .i64 room, .slice A' n2 c'] 49)).alloc (.cells #[.int .i64 p0, .int .i64 0, .int .i64 0, .int .i64 0, .bool pd] 30)) := below_alloc (below_alloc (Below.refl _ _) _) _
              have HNX : Aside0 (((w8.alloc (.cells #[.int .i64 room, .slice A' n2 c'] 49)).alloc (.cells #[.int .i64 p0, .int .i64 0, .int .i64 0, .int .i64 0, .bool pd] 30)).heap[w8.heap.size]? = some (.cells #[.int .i64 room, .slice A' n2 c'] 49 (0, 0))) := ⟨blk_below (heap_alloc_new w8 _) (below_alloc (Below.refl _ _) _)⟩
              have hs9_ : (w8.alloc (.cells #[.int .i64 room, .slice A' n2 c'] 49)).heap.size = w8.heap.size + 1 := by simp
              have HBB : Aside0 (((w8.alloc (.cells #[.int .i64 room, .slice A' n2 c'] 49)).alloc (.cells #[.int .i64 p0, .int .i64 0, .int .i64 0, .int .i64 0, .bool pd] 30)).heap[w8.heap.size + 1]? = some (.cells #[.int .i64 p0, .int .i64 0, .int .i64 0, .int .i64 0, .bool pd] 30 (0, 0))) := ⟨by rw [← hs9_]; exact heap_alloc_new _ _⟩
              replace HA := Aside0.mk (blk_below HA.out hb_)
              replace HP := Aside0.mk (HP.out.below hb_)
              replace HR := Aside0.mk (Kd.R_below HR.out hb_)
              skip
              generalize (w8.alloc (.cells #[.int .i64 room, .slice A' n2 c'] 49)).alloc (.cells #[.int .i64 p0, .int .i64 0, .int .i64 0, .int .i64 0, .bool pd] 30) = w9 at HP HR HA HNX HBB hb_ ⊢
              generalize w8.heap.size = gn at HNX HBB ⊢
              clear hb_ hs9_
              have x0_ := (blk_cell HP.out.x 0).trans (rfl : _ = some (.int .i64 room : Value))
              have x1_ := (blk_cell HP.out.x 1).trans (rfl : _ = some (.slice A n c : Value))
              have kx0_ := blk_frozen HP.out.x 0
              have kx1_ := blk_frozen HP.out.x 1
              have n0_ := (blk_cell HNX.out 0).trans (rfl : _ = some (.int .i64 room : Value))
              have n1_ := (blk_cell HNX.out 1).trans (rfl : _ = some (.slice A' n2 c' : Value))
              go_upto_region 27 with fail
              replace HA := Aside0.mk (blk_far (p := ⟨gx, 1, none⟩) (blk_far (p := ⟨gx, 0, none⟩) HA.out (blk_types HA.out HP.out.x (by decide)) (.int .i64 room)) (blk_types HA.out HP.out.x (by decide)) (.slice A' n2 c'))
              replace HBB := Aside0.mk (blk_far (p := ⟨gx, 1, none⟩) (blk_far (p := ⟨gx, 0, none⟩) HBB.out (blk_types HBB.out HP.out.x (by decide)) (.int .i64 room)) (blk_types HBB.out HP.out.x (by decide)) (.slice A' n2 c'))
              replace HR := Aside0.mk (Kd.R_set (Kd.R_set HR.out HP.out.x (by decide) 0 (.int .i64 room)) (HP.out.setx 0 (.int .i64 room) (X' := #[.int .i64 room, .slice A n c]) rfl).x (by decide) 1 (.slice A' n2 c'))
              replace HP := Aside0.mk ((HP.out.setx 0 (.int .i64 room) (X' := #[.int .i64 room, .slice A n c]) rfl).setx 1 (.slice A' n2 c') (X' := #[.int .i64 room, .slice A' n2 c']) rfl)
              clear x0_ x1_ kx0_ kx1_ n0_ n1_ HNX
              generalize (w9.setCell ⟨gx, 0, none⟩ (.int .i64 room)).setCell ⟨gx, 1, none⟩ (.slice A' n2 c') = w10 at HP HR HA HBB ⊢
              have a0_ := (blk_cell HA.out 0).trans (rfl : _ = some (.int .i64 p0 : Value))
              have a1_ := (blk_cell HA.out 1).trans (rfl : _ = some (.int .i64 0 : Value))
              have a2_ := (blk_cell HA.out 2).trans (rfl : _ = some (.int .i64 0 : Value))
              have a3_ := (blk_cell HA.out 3).trans (rfl : _ = some (.int .i64 0 : Value))
              have a4_ := (blk_cell HA.out 4).trans (rfl : _ = some (.bool pd : Value))
              have b0_ := (blk_cell HBB.out 0).trans (rfl : _ = some (.int .i64 p0 : Value))
              have b1_ := (blk_cell HBB.out 1).trans (rfl : _ = some (.int .i64 0 : Value))
              have b2_ := (blk_cell HBB.out 2).trans (rfl : _ = some (.int .i64 0 : Value))
              have b3_ := (blk_cell HBB.out 3).trans (rfl : _ = some (.int .i64 0 : Value))
              have b4_ := (blk_cell HBB.out 4).trans (rfl : _ = some (.bool pd : Value))
              have her_ : (er != er) = false := by simp
              go_wp2_with fail
              go_upto_region 35 with fail
              clear her_ a0_ b0_ a1_ b1_ a2_ b2_ a3_ b3_ a4_ b4_
              have hnn_ : ((n2 : Int) != (n2 : Int)) = false := by simp
              have hnm_ : (n2 != n2) = false := by simp
              refine start_ (n := 6) (S := fun w' => Below w10.heap.size w10 w') (ds := []) #[false, false, false, false, false, false] (by kernel_rfl) rfl rfl (below_drew (Below.refl _ _)) (fun hHeld => ?_)
              refine pure_ (i := 0) (N := some 164) (v := ?_) (a' := ?_) #[true, false, false, false, false, false] rfl rfl (by kernel_rfl) (fun _ _ _ h => h) (Or.inl ⟨by rfl, ?_⟩) ?_ ?_
              rotate_left
              · intro w'
                go_simp
                with_reducible rfl
              rotate_left
              · simp only [Act.put, List.setIfInBounds_toArray, List.set_cons_zero, List.set_cons_succ, i64_w, i32_w]
                rfl
              refine pure_ (i := 2) (N := some 166) (v := ?_) (a' := ?_) #[true, false, true, false, false, false] rfl rfl (by kernel_rfl) (fun _ _ _ h => h) (Or.inl ⟨by rfl, ?_⟩) ?_ ?_
              rotate_left
              · intro w'
                go_simp
                with_reducible rfl
              rotate_left
              · simp only [Act.put, List.setIfInBounds_toArray, List.set_cons_zero, List.set_cons_succ, i64_w, i32_w]
                rfl
              refine take_ (i := 3) (N := some 167) (v := ?_) (a' := ?_) #[true, false, true, true, false, false] rfl rfl (by kernel_rfl) (fun _ _ _ h => h) (Or.inl ⟨by rfl, ?_⟩) hHeld ?_ ?_
              rotate_left
              · intro w' hS
                have c_ := (blk_cell (blk_below HP.out.x hS) 1).trans (rfl : _ = some (.slice A' n2 c' : Value))
                go_simp
                with_reducible rfl
              rotate_left
              · simp only [Act.put, List.setIfInBounds_toArray, List.set_cons_zero, List.set_cons_succ, i64_w, i32_w]
                rfl
              refine pure_ (i := 4) (N := some 168) (v := ?_) (a' := ?_) #[true, false, true, true, true, false] rfl rfl (by kernel_rfl) (fun _ _ _ h => h) (Or.inl ⟨by rfl, ?_⟩) ?_ ?_
              rotate_left
              · intro w'
                go_simp
                with_reducible rfl
              rotate_left
              · simp only [Act.put, List.setIfInBounds_toArray, List.set_cons_zero, List.set_cons_succ, i64_w, i32_w]
                rfl
              refine one_ (i := 1) (N := some 165) #[true, true, true, true, true, false] rfl rfl (by kernel_rfl) (by simp) (fun K hK => ?_)
              refine goes_ Try.func14 (by kernel_rfl) rfl #[.pointer (some ⟨b, 0, none⟩)] (by rfl) rfl rfl (by simp only [List.map_toArray, List.map_cons, List.map_nil]; rfl) ?_
              with_reducible refine ((HP.out.s.below hHeld).lenB HN2.out).mono ?_
              rintro e w11 ⟨rfl, hb_⟩
              refine ⟨_, rfl, ?_⟩
              replace hb_ := below_step hHeld hb_
              refine hK.out _ _ hb_ (fun _ => ?_)
              clear hK K hHeld
              refine norm_ (a' := ?_) ?_ ?_
              rotate_left
              · show Act.put _ (some 165) _ = _
                simp only [Act.put, List.setIfInBounds_toArray, List.set_cons_zero, List.set_cons_succ, i64_w, i32_w]
                rfl
              refine stronger_ (S' := fun w' => Below w11.heap.size w11 w') (fun w' h => below_step hb_ h) (Below.refl _ _) ?_
              have hHeld := Below.refl w11.heap.size w11
              replace HP := Aside0.mk (HP.out.below hb_)
              replace HR := Aside0.mk (Kd.R_below HR.out hb_)
              clear hb_
              refine pure_ (i := 5) (N := some 169) (v := ?_) (a' := ?_) #[true, true, true, true, true, true] rfl rfl (by kernel_rfl) (fun _ _ _ h => h) (Or.inl ⟨by rfl, ?_⟩) ?_ ?_
              rotate_left
              · intro w'
                go_simp
                with_reducible rfl
              rotate_left
              · simp only [Act.put, List.setIfInBounds_toArray, List.set_cons_zero, List.set_cons_succ, i64_w, i32_w]
                rfl
              refine done_ (by kernel_rfl) ?_
              go_wp2_with fail
              go_roundw
              case rel => exact ⟨i + 1, L2, A', c', by omega, by omega, by go_num, ⟨⟨HP.out.s, by rw [HN2.out]; exact HP.out.x, HP.out.lx, by rw [HN2.out]; exact HR.out⟩⟩⟩
              case measure => simp [intOf]; omega
            · by_cases hk2 : kd = 2
              · subst hk2
                obtain ⟨L2, HL2⟩ : ∃ y_, Aside0 (doL room L ck cf ct cv cd = y_) := ⟨_, ⟨rfl⟩⟩
                obtain ⟨er, HER⟩ : ∃ y_, Aside0 (doE room L ck cf ct cv cd = y_) := ⟨_, ⟨rfl⟩⟩
                obtain ⟨n2, HN2⟩ : ∃ y_, Aside0 (L2.length = y_) := ⟨_, ⟨rfl⟩⟩
                have e3_ := (blk_cell HP.out.d 3).trans (rfl : _ = some (.int .i64 ck : Value))
                have e4_ := (blk_cell HP.out.d 4).trans (rfl : _ = some (.int .i64 cf : Value))
                have e5_ := (blk_cell HP.out.d 5).trans (rfl : _ = some (.int .i64 ct : Value))
                have e6_ := (blk_cell HP.out.d 6).trans (rfl : _ = some (.int .i64 cv : Value))
                have e7_ := (blk_cell HP.out.d 7).trans (rfl : _ = some (.bool cd : Value))
                go_wp2_with fail
                refine (HP.out.pdo ck cf ct cv cd HDO.out.ck HDO.out.cv).mono ?_
                rintro e w6 ⟨he_, hp_, kx_⟩
                rw [HER.out] at he_
                rw [HL2.out] at hp_
                subst he_
                replace HP := Aside0.mk hp_
                replace HR := Aside0.mk (kx_.R HR.out)
                clear hp_ kx_ e0_ e1_ e3_ e4_ e5_ e6_ e7_
                have e3_ := (blk_cell HP.out.d 3).trans (rfl : _ = some (.int .i64 ck : Value))
                have e4_ := (blk_cell HP.out.d 4).trans (rfl : _ = some (.int .i64 cf : Value))
                have e5_ := (blk_cell HP.out.d 5).trans (rfl : _ = some (.int .i64 ct : Value))
                have e6_ := (blk_cell HP.out.d 6).trans (rfl : _ = some (.int .i64 cv : Value))
                have e7_ := (blk_cell HP.out.d 7).trans (rfl : _ = some (.bool cd : Value))
                have x0_ := (blk_cell HP.out.x 0).trans (rfl : _ = some (.int .i64 room : Value))
                have x1_ := (blk_cell HP.out.x 1).trans (rfl : _ = some (.slice A n c : Value))
                go_wp2_with fail
                refine (rdo (L := L) HR.out HP.out.s.bl HKV.out.1 HKV.out.2.2 ck cf ct cv cd).mono ?_
                rintro e w8 ⟨A', c', he_, hr_, hb_, hk_⟩
                simp only [HER.out, HL2.out] at he_ hr_
                rw [HN2.out] at he_ hr_
                subst he_
                replace HP := Aside0.mk (HP.out.refk HR.out hb_ hk_)
                replace HR := Aside0.mk hr_
                clear hr_ hb_ hk_
                clear x0_ x1_ e3_ e4_ e5_ e6_ e7_
                go_upto_region 32 with fail
                have hb_ : Below w8.heap.size w8 (w8.alloc (.cells #[.int .i64 room, .slice A' n2 c'] 49)) := below_alloc (Below.refl _ _) _
                have HNX : Aside0 ((w8.alloc (.cells #[.int .i64 room, .slice A' n2 c'] 49)).heap[w8.heap.size]? = some (.cells #[.int .i64 room, .slice A' n2 c'] 49 (0, 0))) := ⟨heap_alloc_new w8 _⟩
                replace HP := Aside0.mk (HP.out.below hb_)
                replace HR := Aside0.mk (Kd.R_below HR.out hb_)
                generalize w8.alloc (.cells #[.int .i64 room, .slice A' n2 c'] 49) = w9 at HP HR HNX hb_ ⊢
                generalize w8.heap.size = gn at HNX ⊢
                clear hb_
                have x0_ := (blk_cell HP.out.x 0).trans (rfl : _ = some (.int .i64 room : Value))
                have x1_ := (blk_cell HP.out.x 1).trans (rfl : _ = some (.slice A n c : Value))
                have kx0_ := blk_frozen HP.out.x 0
                have kx1_ := blk_frozen HP.out.x 1
                have n0_ := (blk_cell HNX.out 0).trans (rfl : _ = some (.int .i64 room : Value))
                have n1_ := (blk_cell HNX.out 1).trans (rfl : _ = some (.slice A' n2 c' : Value))
                go_upto_region 33 with fail
                replace HR := Aside0.mk (Kd.R_set (Kd.R_set HR.out HP.out.x (by decide) 0 (.int .i64 room)) (HP.out.setx 0 (.int .i64 room) (X' := #[.int .i64 room, .slice A n c]) rfl).x (by decide) 1 (.slice A' n2 c'))
                replace HP := Aside0.mk ((HP.out.setx 0 (.int .i64 room) (X' := #[.int .i64 room, .slice A n c]) rfl).setx 1 (.slice A' n2 c') (X' := #[.int .i64 room, .slice A' n2 c']) rfl)
                clear x0_ x1_ kx0_ kx1_ n0_ n1_ HNX
                generalize (w9.setCell ⟨gx, 0, none⟩ (.int .i64 room)).setCell ⟨gx, 1, none⟩ (.slice A' n2 c') = w10 at HP HR ⊢
                have her_ : (er != er) = false := by simp
                go_wp2_with fail
                go_upto_region 35 with fail
                clear her_
                have hnn_ : ((n2 : Int) != (n2 : Int)) = false := by simp
                have hnm_ : (n2 != n2) = false := by simp
                refine start_ (n := 6) (S := fun w' => Below w10.heap.size w10 w') (ds := []) #[false, false, false, false, false, false] (by kernel_rfl) rfl rfl (below_drew (Below.refl _ _)) (fun hHeld => ?_)
                refine pure_ (i := 0) (N := some 164) (v := ?_) (a' := ?_) #[true, false, false, false, false, false] rfl rfl (by kernel_rfl) (fun _ _ _ h => h) (Or.inl ⟨by rfl, ?_⟩) ?_ ?_
                rotate_left
                · intro w'
                  go_simp
                  with_reducible rfl
                rotate_left
                · simp only [Act.put, List.setIfInBounds_toArray, List.set_cons_zero, List.set_cons_succ, i64_w, i32_w]
                  rfl
                refine pure_ (i := 2) (N := some 166) (v := ?_) (a' := ?_) #[true, false, true, false, false, false] rfl rfl (by kernel_rfl) (fun _ _ _ h => h) (Or.inl ⟨by rfl, ?_⟩) ?_ ?_
                rotate_left
                · intro w'
                  go_simp
                  with_reducible rfl
                rotate_left
                · simp only [Act.put, List.setIfInBounds_toArray, List.set_cons_zero, List.set_cons_succ, i64_w, i32_w]
                  rfl
                refine take_ (i := 3) (N := some 167) (v := ?_) (a' := ?_) #[true, false, true, true, false, false] rfl rfl (by kernel_rfl) (fun _ _ _ h => h) (Or.inl ⟨by rfl, ?_⟩) hHeld ?_ ?_
                rotate_left
                · intro w' hS
                  have c_ := (blk_cell (blk_below HP.out.x hS) 1).trans (rfl : _ = some (.slice A' n2 c' : Value))
                  go_simp
                  with_reducible rfl
                rotate_left
                · simp only [Act.put, List.setIfInBounds_toArray, List.set_cons_zero, List.set_cons_succ, i64_w, i32_w]
                  rfl
                refine pure_ (i := 4) (N := some 168) (v := ?_) (a' := ?_) #[true, false, true, true, true, false] rfl rfl (by kernel_rfl) (fun _ _ _ h => h) (Or.inl ⟨by rfl, ?_⟩) ?_ ?_
                rotate_left
                · intro w'
                  go_simp
                  with_reducible rfl
                rotate_left
                · simp only [Act.put, List.setIfInBounds_toArray, List.set_cons_zero, List.set_cons_succ, i64_w, i32_w]
                  rfl
                refine one_ (i := 1) (N := some 165) #[true, true, true, true, true, false] rfl rfl (by kernel_rfl) (by simp) (fun K hK => ?_)
                refine goes_ Try.func14 (by kernel_rfl) rfl #[.pointer (some ⟨b, 0, none⟩)] (by rfl) rfl rfl (by simp only [List.map_toArray, List.map_cons, List.map_nil]; rfl) ?_
                with_reducible refine ((HP.out.s.below hHeld).lenB HN2.out).mono ?_
                rintro e w11 ⟨rfl, hb_⟩
                refine ⟨_, rfl, ?_⟩
                replace hb_ := below_step hHeld hb_
                refine hK.out _ _ hb_ (fun _ => ?_)
                clear hK K hHeld
                refine norm_ (a' := ?_) ?_ ?_
                rotate_left
                · show Act.put _ (some 165) _ = _
                  simp only [Act.put, List.setIfInBounds_toArray, List.set_cons_zero, List.set_cons_succ, i64_w, i32_w]
                  rfl
                refine stronger_ (S' := fun w' => Below w11.heap.size w11 w') (fun w' h => below_step hb_ h) (Below.refl _ _) ?_
                have hHeld := Below.refl w11.heap.size w11
                replace HP := Aside0.mk (HP.out.below hb_)
                replace HR := Aside0.mk (Kd.R_below HR.out hb_)
                clear hb_
                refine pure_ (i := 5) (N := some 169) (v := ?_) (a' := ?_) #[true, true, true, true, true, true] rfl rfl (by kernel_rfl) (fun _ _ _ h => h) (Or.inl ⟨by rfl, ?_⟩) ?_ ?_
                rotate_left
                · intro w'
                  go_simp
                  with_reducible rfl
                rotate_left
                · simp only [Act.put, List.setIfInBounds_toArray, List.set_cons_zero, List.set_cons_succ, i64_w, i32_w]
                  rfl
                refine done_ (by kernel_rfl) ?_
                go_wp2_with fail
                go_roundw
                case rel => exact ⟨i + 1, L2, A', c', by omega, by omega, by go_num, ⟨⟨HP.out.s, by rw [HN2.out]; exact HP.out.x, HP.out.lx, by rw [HN2.out]; exact HR.out⟩⟩⟩
                case measure => simp [intOf]; omega
              · have hk0b : (kd == 0) = false := by simpa using hk0
                have hk1b : (kd == 1) = false := by simpa using hk1
                have hk2b : (kd == 2) = false := by simpa using hk2
                obtain ⟨g0, HG0⟩ : ∃ y_, Aside0 ((get L x).getD 0 = y_) := ⟨_, ⟨rfl⟩⟩
                obtain ⟨g1, HG1⟩ : ∃ y_, Aside0 ((get L x).isSome = y_) := ⟨_, ⟨rfl⟩⟩
                clear hk0 hk1 hk2
                go_wp2_with fail
                refine (HP.out.s.get x).mono ?_
                rintro e w6 ⟨he_, _, hb_⟩
                rw [HG0.out, HG1.out] at he_
                subst he_
                replace HP := Aside0.mk (HP.out.below hb_)
                replace HR := Aside0.mk (Kd.R_below HR.out hb_)
                clear hb_ e0_ e1_
                have e1_ := (blk_cell HP.out.d 1).trans (rfl : _ = some (.int .i64 x : Value))
                have x0_ := (blk_cell HP.out.x 0).trans (rfl : _ = some (.int .i64 room : Value))
                have x1_ := (blk_cell HP.out.x 1).trans (rfl : _ = some (.slice A n c : Value))
                have HRC := Aside0.mk (Kd.R_reads' HR.out).2.2
                have hcn : n ≤ c := (Kd.R_reads' HR.out).2.1
                rw [chg_len, HN.out] at HRC
                go_wp2_with fail
                refine (rget (room := room) HRC.out HN.out hcn HKV.out.2.2 x).mono ?_
                rintro e w8 ⟨he_, hb_⟩
                rw [HG0.out, HG1.out] at he_
                subst he_
                replace HP := Aside0.mk (HP.out.below hb_)
                replace HR := Aside0.mk (Kd.R_below HR.out hb_)
                clear hb_ e1_ x0_ x1_ HRC hcn
                have hg0_ : (g0 != g0) = false := by simp
                have hg1_ : (g1 != g1) = false := by simp
                go_wp2_with fail
                go_upto_region 35 with fail
                clear hg0_ hg1_
                have hnn_ : ((n : Int) != (n : Int)) = false := by simp
                have hnm_ : (n != n) = false := by simp
                refine start_ (n := 6) (S := fun w' => Below w8.heap.size w8 w') (ds := []) #[false, false, false, false, false, false] (by kernel_rfl) rfl rfl (below_drew (Below.refl _ _)) (fun hHeld => ?_)
                refine pure_ (i := 0) (N := some 164) (v := ?_) (a' := ?_) #[true, false, false, false, false, false] rfl rfl (by kernel_rfl) (fun _ _ _ h => h) (Or.inl ⟨by rfl, ?_⟩) ?_ ?_
                rotate_left
                · intro w'
                  go_simp
                  with_reducible rfl
                rotate_left
                · simp only [Act.put, List.setIfInBounds_toArray, List.set_cons_zero, List.set_cons_succ, i64_w, i32_w]
                  rfl
                refine pure_ (i := 2) (N := some 166) (v := ?_) (a' := ?_) #[true, false, true, false, false, false] rfl rfl (by kernel_rfl) (fun _ _ _ h => h) (Or.inl ⟨by rfl, ?_⟩) ?_ ?_
                rotate_left
                · intro w'
                  go_simp
                  with_reducible rfl
                rotate_left
                · simp only [Act.put, List.setIfInBounds_toArray, List.set_cons_zero, List.set_cons_succ, i64_w, i32_w]
                  rfl
                refine take_ (i := 3) (N := some 167) (v := ?_) (a' := ?_) #[true, false, true, true, false, false] rfl rfl (by kernel_rfl) (fun _ _ _ h => h) (Or.inl ⟨by rfl, ?_⟩) hHeld ?_ ?_
                rotate_left
                · intro w' hS
                  have c_ := (blk_cell (blk_below HP.out.x hS) 1).trans (rfl : _ = some (.slice A n c : Value))
                  go_simp
                  with_reducible rfl
                rotate_left
                · simp only [Act.put, List.setIfInBounds_toArray, List.set_cons_zero, List.set_cons_succ, i64_w, i32_w]
                  rfl
                refine pure_ (i := 4) (N := some 168) (v := ?_) (a' := ?_) #[true, false, true, true, true, false] rfl rfl (by kernel_rfl) (fun _ _ _ h => h) (Or.inl ⟨by rfl, ?_⟩) ?_ ?_
                rotate_left
                · intro w'
                  go_simp
                  with_reducible rfl
                rotate_left
                · simp only [Act.put, List.setIfInBounds_toArray, List.set_cons_zero, List.set_cons_succ, i64_w, i32_w]
                  rfl
                refine one_ (i := 1) (N := some 165) #[true, true, true, true, true, false] rfl rfl (by kernel_rfl) (by simp) (fun K hK => ?_)
                refine goes_ Try.func14 (by kernel_rfl) rfl #[.pointer (some ⟨b, 0, none⟩)] (by rfl) rfl rfl (by simp only [List.map_toArray, List.map_cons, List.map_nil]; rfl) ?_
                with_reducible refine ((HP.out.s.below hHeld).lenB HN.out).mono ?_
                rintro e w11 ⟨rfl, hb_⟩
                refine ⟨_, rfl, ?_⟩
                replace hb_ := below_step hHeld hb_
                refine hK.out _ _ hb_ (fun _ => ?_)
                clear hK K hHeld
                refine norm_ (a' := ?_) ?_ ?_
                rotate_left
                · show Act.put _ (some 165) _ = _
                  simp only [Act.put, List.setIfInBounds_toArray, List.set_cons_zero, List.set_cons_succ, i64_w, i32_w]
                  rfl
                refine stronger_ (S' := fun w' => Below w11.heap.size w11 w') (fun w' h => below_step hb_ h) (Below.refl _ _) ?_
                have hHeld := Below.refl w11.heap.size w11
                replace HP := Aside0.mk (HP.out.below hb_)
                replace HR := Aside0.mk (Kd.R_below HR.out hb_)
                clear hb_
                refine pure_ (i := 5) (N := some 169) (v := ?_) (a' := ?_) #[true, true, true, true, true, true] rfl rfl (by kernel_rfl) (fun _ _ _ h => h) (Or.inl ⟨by rfl, ?_⟩) ?_ ?_
                rotate_left
                · intro w'
                  go_simp
                  with_reducible rfl
                rotate_left
                · simp only [Act.put, List.setIfInBounds_toArray, List.set_cons_zero, List.set_cons_succ, i64_w, i32_w]
                  rfl
                refine done_ (by kernel_rfl) ?_
                go_wp2_with fail
                go_roundw
                case rel => exact ⟨i + 1, L, A, c, by omega, by omega, by go_num, ⟨⟨HP.out.s, by rw [HN.out]; exact HP.out.x, HP.out.lx, by rw [HN.out]; exact HR.out⟩⟩⟩
                case measure => simp [intOf]; omega
        · have h2 : decide ((i : Int) < 300) = false := by simp; omega
          have h2b : decide (i < 300) = false := by simp; omega
          clear hlt hl3
          have HRC := Aside0.mk (Kd.R_reads' HX.out.r).2.2
          have hcn := (Kd.R_reads' HX.out.r).2.1
          have hln : n ≤ 1024 := by rw [← HN.out]; exact hlen
          rw [chg_len, HN.out] at HRC
          rw [HN.out] at hcn
          go_upto_region 37 with fail
          refine start_ (n := 9) (S := fun w' => Below wr.heap.size wr w') (ds := []) #[false, false, false, false, false, false, false, false, false] (by kernel_rfl) rfl rfl (below_drew (Below.refl _ _)) (fun hHeld => ?_)
          refine pure_ (i := 0) (N := some 170) (v := ?_) (a' := ?_) #[true, false, false, false, false, false, false, false, false] rfl rfl (by kernel_rfl) (fun _ _ _ h => h) (Or.inl ⟨by rfl, ?_⟩) ?_ ?_
          rotate_left
          · intro w'
            go_simp
            with_reducible rfl
          rotate_left
          · simp only [Act.put, List.setIfInBounds_toArray, List.set_cons_zero, List.set_cons_succ, i64_w, i32_w]
            rfl
          refine pure_ (i := 1) (N := some 171) (v := ?_) (a' := ?_) #[true, true, false, false, false, false, false, false, false] rfl rfl (by kernel_rfl) (fun _ _ _ h => h) (Or.inl ⟨by rfl, ?_⟩) ?_ ?_
          rotate_left
          · intro w'
            go_simp
            with_reducible rfl
          rotate_left
          · simp only [Act.put, List.setIfInBounds_toArray, List.set_cons_zero, List.set_cons_succ, i64_w, i32_w]
            rfl
          refine pure_ (i := 2) (N := some 172) (v := ?_) (a' := ?_) #[true, true, true, false, false, false, false, false, false] rfl rfl (by kernel_rfl) (fun _ _ _ h => h) (Or.inl ⟨by rfl, ?_⟩) ?_ ?_
          rotate_left
          · intro w'
            go_simp
            with_reducible rfl
          rotate_left
          · simp only [Act.put, List.setIfInBounds_toArray, List.set_cons_zero, List.set_cons_succ, i64_w, i32_w]
            rfl
          refine pure_ (i := 4) (N := some 174) (v := ?_) (a' := ?_) #[true, true, true, false, true, false, false, false, false] rfl rfl (by kernel_rfl) (fun _ _ _ h => h) (Or.inl ⟨by rfl, ?_⟩) ?_ ?_
          rotate_left
          · intro w'
            go_simp
            with_reducible rfl
          rotate_left
          · simp only [Act.put, List.setIfInBounds_toArray, List.set_cons_zero, List.set_cons_succ, i64_w, i32_w]
            rfl
          refine take_ (i := 5) (N := some 175) (v := ?_) (a' := ?_) #[true, true, true, false, true, true, false, false, false] rfl rfl (by kernel_rfl) (fun _ _ _ h => h) (Or.inl ⟨by rfl, ?_⟩) hHeld ?_ ?_
          rotate_left
          · intro w' hS
            have c_ := (blk_cell (blk_below HX.out.x hS) 1).trans (rfl : _ = some (.slice A L.length c : Value))
            rw [HN.out] at c_
            go_simp
            with_reducible rfl
          rotate_left
          · simp only [Act.put, List.setIfInBounds_toArray, List.set_cons_zero, List.set_cons_succ, i64_w, i32_w]
            rfl
          refine one_ (i := 3) (N := some 173) #[true, true, true, true, true, true, false, false, false] rfl rfl (by kernel_rfl) (by simp) (fun K hK => ?_)
          refine goes_ Try.func13 (by kernel_rfl) rfl #[.pointer (some ⟨b, 0, none⟩)] (by rfl) rfl rfl (by simp only [List.map_toArray, List.map_cons, List.map_nil]; rfl) ?_
          with_reducible refine ((HX.out.s.below hHeld).listB HN.out).mono ?_
          rintro e w9 ⟨A9, c9, rfl, hr9_, hc9_, hb_⟩
          refine ⟨_, rfl, ?_⟩
          replace hb_ := below_step hHeld hb_
          refine hK.out _ _ hb_ (fun _ => ?_)
          clear hK K hHeld
          refine norm_ (a' := ?_) ?_ ?_
          rotate_left
          · show Act.put _ (some 173) _ = _
            simp only [Act.put, List.setIfInBounds_toArray, List.set_cons_zero, List.set_cons_succ, i64_w, i32_w]
            rfl
          refine stronger_ (S' := fun w' => Below w9.heap.size w9 w') (fun w' h => below_step hb_ h) (Below.refl _ _) ?_
          have hHeld := Below.refl w9.heap.size w9
          have HR9 := Aside0.mk hr9_
          have HX9 := Aside0.mk (HX.out.s.below hb_)
          have HRX := Aside0.mk (Kd.C_below HRC.out hb_)
          clear hr9_
          clear hb_
          refine one_ (i := 6) (N := some 176) #[true, true, true, true, true, true, true, false, false] rfl rfl (by kernel_rfl) (by simp) (fun K hK => ?_)
          refine goes_ Try.func12 (by kernel_rfl) rfl #[.slice A9 n c9, .slice A n c] (by rfl) rfl rfl (by simp only [List.map_toArray, List.map_cons, List.map_nil]; rfl) ?_
          with_reducible refine (ch_same L n HN.out hln A9 c9 A c _ (Kd.C_below HR9.out hHeld) hc9_ (Kd.C_below HRX.out hHeld) hcn).mono ?_
          rintro e w10 ⟨rfl, hb_⟩
          refine ⟨_, rfl, ?_⟩
          replace hb_ := below_step hHeld hb_
          refine hK.out _ _ hb_ (fun _ => ?_)
          clear hK K hHeld
          refine norm_ (a' := ?_) ?_ ?_
          rotate_left
          · show Act.put _ (some 176) _ = _
            simp only [Act.put, List.setIfInBounds_toArray, List.set_cons_zero, List.set_cons_succ, i64_w, i32_w]
            rfl
          refine stronger_ (S' := fun w' => Below w10.heap.size w10 w') (fun w' h => below_step hb_ h) (Below.refl _ _) ?_
          have hHeld := Below.refl w10.heap.size w10
          replace HX9 := Aside0.mk (HX9.out.below hb_)
          clear hb_
          refine pure_ (i := 7) (N := some 177) (v := ?_) (a' := ?_) #[true, true, true, true, true, true, true, true, false] rfl rfl (by kernel_rfl) (fun _ _ _ h => h) (Or.inl ⟨by rfl, ?_⟩) ?_ ?_
          rotate_left
          · intro w'
            go_simp
            with_reducible rfl
          rotate_left
          · simp only [Act.put, List.setIfInBounds_toArray, List.set_cons_zero, List.set_cons_succ, i64_w, i32_w]
            rfl
          refine pure_ (i := 8) (N := some 4) (v := ?_) (a' := ?_) #[true, true, true, true, true, true, true, true, true] rfl rfl (by kernel_rfl) (fun _ _ _ h => h) (Or.inl ⟨by rfl, ?_⟩) ?_ ?_
          rotate_left
          · intro w'
            go_simp
            with_reducible rfl
          rotate_left
          · simp only [Act.put, List.setIfInBounds_toArray, List.set_cons_zero, List.set_cons_succ, i64_w, i32_w]
            rfl
          refine done_ (by kernel_rfl) ?_
          go_wp2_with fail
          go_ret
          exact ⟨rfl, HX9.out.bl⟩
      · obtain rfl : i = n0 := by omega
        clear hlt
        have HRC := Aside0.mk (Kd.R_reads' HX.out.r).2.2
        have hcn := (Kd.R_reads' HX.out.r).2.1
        have hln : n ≤ 1024 := by rw [← HN.out]; exact hlen
        rw [chg_len, HN.out] at HRC
        rw [HN.out] at hcn
        go_upto_region 37 with fail
        refine start_ (n := 9) (S := fun w' => Below wr.heap.size wr w') (ds := []) #[false, false, false, false, false, false, false, false, false] (by kernel_rfl) rfl rfl (below_drew (Below.refl _ _)) (fun hHeld => ?_)
        refine pure_ (i := 0) (N := some 170) (v := ?_) (a' := ?_) #[true, false, false, false, false, false, false, false, false] rfl rfl (by kernel_rfl) (fun _ _ _ h => h) (Or.inl ⟨by rfl, ?_⟩) ?_ ?_
        rotate_left
        · intro w'
          go_simp
          with_reducible rfl
        rotate_left
        · simp only [Act.put, List.setIfInBounds_toArray, List.set_cons_zero, List.set_cons_succ, i64_w, i32_w]
          rfl
        refine pure_ (i := 1) (N := some 171) (v := ?_) (a' := ?_) #[true, true, false, false, false, false, false, false, false] rfl rfl (by kernel_rfl) (fun _ _ _ h => h) (Or.inl ⟨by rfl, ?_⟩) ?_ ?_
        rotate_left
        · intro w'
          go_simp
          with_reducible rfl
        rotate_left
        · simp only [Act.put, List.setIfInBounds_toArray, List.set_cons_zero, List.set_cons_succ, i64_w, i32_w]
          rfl
        refine pure_ (i := 2) (N := some 172) (v := ?_) (a' := ?_) #[true, true, true, false, false, false, false, false, false] rfl rfl (by kernel_rfl) (fun _ _ _ h => h) (Or.inl ⟨by rfl, ?_⟩) ?_ ?_
        rotate_left
        · intro w'
          go_simp
          with_reducible rfl
        rotate_left
        · simp only [Act.put, List.setIfInBounds_toArray, List.set_cons_zero, List.set_cons_succ, i64_w, i32_w]
          rfl
        refine pure_ (i := 4) (N := some 174) (v := ?_) (a' := ?_) #[true, true, true, false, true, false, false, false, false] rfl rfl (by kernel_rfl) (fun _ _ _ h => h) (Or.inl ⟨by rfl, ?_⟩) ?_ ?_
        rotate_left
        · intro w'
          go_simp
          with_reducible rfl
        rotate_left
        · simp only [Act.put, List.setIfInBounds_toArray, List.set_cons_zero, List.set_cons_succ, i64_w, i32_w]
          rfl
        refine take_ (i := 5) (N := some 175) (v := ?_) (a' := ?_) #[true, true, true, false, true, true, false, false, false] rfl rfl (by kernel_rfl) (fun _ _ _ h => h) (Or.inl ⟨by rfl, ?_⟩) hHeld ?_ ?_
        rotate_left
        · intro w' hS
          have c_ := (blk_cell (blk_below HX.out.x hS) 1).trans (rfl : _ = some (.slice A L.length c : Value))
          rw [HN.out] at c_
          go_simp
          with_reducible rfl
        rotate_left
        · simp only [Act.put, List.setIfInBounds_toArray, List.set_cons_zero, List.set_cons_succ, i64_w, i32_w]
          rfl
        refine one_ (i := 3) (N := some 173) #[true, true, true, true, true, true, false, false, false] rfl rfl (by kernel_rfl) (by simp) (fun K hK => ?_)
        refine goes_ Try.func13 (by kernel_rfl) rfl #[.pointer (some ⟨b, 0, none⟩)] (by rfl) rfl rfl (by simp only [List.map_toArray, List.map_cons, List.map_nil]; rfl) ?_
        with_reducible refine ((HX.out.s.below hHeld).listB HN.out).mono ?_
        rintro e w9 ⟨A9, c9, rfl, hr9_, hc9_, hb_⟩
        refine ⟨_, rfl, ?_⟩
        replace hb_ := below_step hHeld hb_
        refine hK.out _ _ hb_ (fun _ => ?_)
        clear hK K hHeld
        refine norm_ (a' := ?_) ?_ ?_
        rotate_left
        · show Act.put _ (some 173) _ = _
          simp only [Act.put, List.setIfInBounds_toArray, List.set_cons_zero, List.set_cons_succ, i64_w, i32_w]
          rfl
        refine stronger_ (S' := fun w' => Below w9.heap.size w9 w') (fun w' h => below_step hb_ h) (Below.refl _ _) ?_
        have hHeld := Below.refl w9.heap.size w9
        have HR9 := Aside0.mk hr9_
        have HX9 := Aside0.mk (HX.out.s.below hb_)
        have HRX := Aside0.mk (Kd.C_below HRC.out hb_)
        clear hr9_
        clear hb_
        refine one_ (i := 6) (N := some 176) #[true, true, true, true, true, true, true, false, false] rfl rfl (by kernel_rfl) (by simp) (fun K hK => ?_)
        refine goes_ Try.func12 (by kernel_rfl) rfl #[.slice A9 n c9, .slice A n c] (by rfl) rfl rfl (by simp only [List.map_toArray, List.map_cons, List.map_nil]; rfl) ?_
        with_reducible refine (ch_same L n HN.out hln A9 c9 A c _ (Kd.C_below HR9.out hHeld) hc9_ (Kd.C_below HRX.out hHeld) hcn).mono ?_
        rintro e w10 ⟨rfl, hb_⟩
        refine ⟨_, rfl, ?_⟩
        replace hb_ := below_step hHeld hb_
        refine hK.out _ _ hb_ (fun _ => ?_)
        clear hK K hHeld
        refine norm_ (a' := ?_) ?_ ?_
        rotate_left
        · show Act.put _ (some 176) _ = _
          simp only [Act.put, List.setIfInBounds_toArray, List.set_cons_zero, List.set_cons_succ, i64_w, i32_w]
          rfl
        refine stronger_ (S' := fun w' => Below w10.heap.size w10 w') (fun w' h => below_step hb_ h) (Below.refl _ _) ?_
        have hHeld := Below.refl w10.heap.size w10
        replace HX9 := Aside0.mk (HX9.out.below hb_)
        clear hb_
        refine pure_ (i := 7) (N := some 177) (v := ?_) (a' := ?_) #[true, true, true, true, true, true, true, true, false] rfl rfl (by kernel_rfl) (fun _ _ _ h => h) (Or.inl ⟨by rfl, ?_⟩) ?_ ?_
        rotate_left
        · intro w'
          go_simp
          with_reducible rfl
        rotate_left
        · simp only [Act.put, List.setIfInBounds_toArray, List.set_cons_zero, List.set_cons_succ, i64_w, i32_w]
          rfl
        refine pure_ (i := 8) (N := some 4) (v := ?_) (a' := ?_) #[true, true, true, true, true, true, true, true, true] rfl rfl (by kernel_rfl) (fun _ _ _ h => h) (Or.inl ⟨by rfl, ?_⟩) ?_ ?_
        rotate_left
        · intro w'
          go_simp
          with_reducible rfl
        rotate_left
        · simp only [Act.put, List.setIfInBounds_toArray, List.set_cons_zero, List.set_cons_succ, i64_w, i32_w]
          rfl
        refine done_ (by kernel_rfl) ?_
        go_wp2_with fail
        go_ret
        exact ⟨rfl, HX9.out.bl⟩
end Go.Proofs.Ytlnpnlacalppjaa.Kv
