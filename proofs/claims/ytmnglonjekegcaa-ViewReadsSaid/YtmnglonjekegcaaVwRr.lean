/- Texts of this claim, joined. -/
import Derived.Test.YtmnglonjekegcaaVwPt
namespace Go.Proofs.Ytmnglonjekegcaa.Vw
open Go Go.RowKit Go.Maps Go.Proofs.Ytmnglonjekegcaa.Mk Go.Proofs.Ytmnglonjekegcaa.Rp Go.Proofs.YtmnglonjekegcaaW.PrintWords Go.Proofs.YtmnglonjekegcaaW.PrintLast Go.Proofs.YtmnglonjekegcaaW.PrintMore Go.Proofs.Ytmnglonjekegcaa.Rw Go.Proofs.Ytmnglonjekegcaa.Ow Go.Proofs.Ytmnglonjekegcaa.Mono
set_option linter.unusedVariables false
set_option linter.unusedSimpArgs false
set_option maxRecDepth 100000
structure RdI (w wr : World) (g0 gR gO : Nat) (n : Int) (v0 v1 : Value) (ls : List S36) (ts : List S41) : Prop where
  blk : wr.heap[gO]? = some (.cells #[v0, v1, .int .i64 n] 29 (0, 0))
  res : wr.heap[gR]? = some (.cells #[.slice none 0 0, .slice none 0 0, .int .i64 0] 29 (0, 0))
  r0 : RT k36 36 w g0 wr v0 ls
  r1 : RT k41 41 w g0 wr v1 ts
  bel : Below w.heap.size w wr
  ne : gR ≠ gO
  hR : w.heap.size ≤ gR
  hO : w.heap.size ≤ gO
  hb : w.heap.size ≤ g0
  hs : g0 ≤ wr.heap.size
section
variable {w wr : World} {g0 gR gO : Nat} {n : Int} {v0 v1 : Value} {ls : List S36} {ts : List S41}
theorem RdI.below (h : RdI w wr g0 gR gO n v0 v1 ls ts) {w' : World} (hb : Below wr.heap.size wr w') : RdI w w' g0 gR gO n v0 v1 ls ts :=
  ⟨blk_below h.blk hb, blk_below h.res hb, h.r0.below hb, h.r1.below hb, below_on h.bel h.bel.size hb, h.ne, h.hR, h.hO, h.hb, Nat.le_trans h.hs hb.size⟩
theorem RdI.app0 (h : RdI w wr g0 gR gO n v0 v1 ls ts) {W1 : World} (h1 : Below wr.heap.size wr W1) (x : S36) (news : List Value) {gl : Nat} (hgl : W1.heap[gl]? = some (.cells news.toArray 36 (0, 0))) (hl : news.length = (k36).sz) (hone : ∀ u ∈ news, u.oneCell' = true) (hK : ∀ W2, KeepN 36 W1 W2 → Below w.heap.size w W2 → (k36).K W2 x news) (hn : ls.length ≤ 1000000) (ty : TypeId) (hty : ty = 26) :
    ∃ v' w', (Builtin.append_ #[26, 26] ty #[v0, .slice (some ⟨gl, 0, none⟩) 1 1]).run Try.prog W1 = .ok v' w' ∧ w'.heap[gO]? = some (.cells #[v0, v1, .int .i64 n] 29 (0, 0)) ∧ RdI w (w'.setCell ⟨gO, 0, none⟩ v') g0 gR gO n v' v1 (ls ++ [x]) ts ∧ KeepN 36 W1 (w'.setCell ⟨gO, 0, none⟩ v') ∧ W1.heap.size ≤ (w'.setCell ⟨gO, 0, none⟩ v').heap.size ∧ ∃ A c, v' = .slice A (ls.length + 1) c := by
  have hb := h.below h1
  obtain ⟨v', w', hr, ht, hku, hg0, hsz, hbb, hA⟩ := h.r0.app1 h.hs TILV h1 x news hgl hl hone hK hn (by decide) ty hty
  have hkn : KeepN 36 W1 w' := fun k U cs hU hc => hku k U cs (fun e => by rw [e] at hU; revert hU; decide) hc
  have hblk := hku _ _ _ (by decide) hb.blk
  have hset : ∀ {Q : TypeId}, KeepN Q w' (w'.setCell ⟨gO, 0, none⟩ v') := fun {Q} => KeepN.set hblk (by decide) _ _
  have hso : ∀ (U : TypeId), U ≠ 29 → ∀ (k : Nat) (cs : Array Value), w'.heap[k]? = some (.cells cs U (0, 0)) → (w'.setCell ⟨gO, 0, none⟩ v').heap[k]? = some (.cells cs U (0, 0)) := fun U hU k cs hc => (Below.heap_setCell _ _ _ k (blk_types hc hblk hU)).trans hc
  have hz : w'.heap.size ≤ (w'.setCell ⟨gO, 0, none⟩ v').heap.size := ((Below.refl 0 w').setCell (p := ⟨gO, 0, none⟩) (Nat.zero_le _) v').size
  refine ⟨v', w', hr, hblk, ⟨?_, ?_, ?_, ?_, ?_, h.ne, h.hR, h.hO, h.hb, Nat.le_trans hg0 hz⟩, hkn.trans hset, Nat.le_trans hsz hz, hA⟩
  · exact blk_put hblk 0 v' (rfl : _ = (#[v', v1, .int .i64 n] : Array Value))
  · exact (Below.heap_setCell _ _ _ gR h.ne).trans (hku _ _ _ (by decide) hb.res)
  · exact ht.keep (hso _ (by decide)) hset
  · exact (hb.r1.keep (fun k cs hc => hku k _ cs (by decide) hc) (fun k U cs hU hc => hkn k U cs hU hc)).keep (hso _ (by decide)) hset
  · exact (hbb _ w h.hb h.bel).setCell (p := ⟨gO, 0, none⟩) h.hO v'
theorem RdI.app1 (h : RdI w wr g0 gR gO n v0 v1 ls ts) {W1 : World} (h1 : Below wr.heap.size wr W1) (x : S41) (news : List Value) {gl : Nat} (hgl : W1.heap[gl]? = some (.cells news.toArray 41 (0, 0))) (hl : news.length = (k41).sz) (hone : ∀ u ∈ news, u.oneCell' = true) (hK : ∀ W2, KeepN 41 W1 W2 → Below w.heap.size w W2 → (k41).K W2 x news) (hn : ts.length ≤ 1000000) (ty : TypeId) (hty : ty = 27) :
    ∃ v' w', (Builtin.append_ #[27, 27] ty #[v1, .slice (some ⟨gl, 0, none⟩) 1 1]).run Try.prog W1 = .ok v' w' ∧ w'.heap[gO]? = some (.cells #[v0, v1, .int .i64 n] 29 (0, 0)) ∧ RdI w (w'.setCell ⟨gO, 1, none⟩ v') g0 gR gO n v0 v' ls (ts ++ [x]) ∧ KeepN 41 W1 (w'.setCell ⟨gO, 1, none⟩ v') ∧ W1.heap.size ≤ (w'.setCell ⟨gO, 1, none⟩ v').heap.size ∧ ∃ A c, v' = .slice A (ts.length + 1) c := by
  have hb := h.below h1
  obtain ⟨v', w', hr, ht, hku, hg0, hsz, hbb, hA⟩ := h.r1.app1 h.hs TITV h1 x news hgl hl hone hK hn (by decide) ty hty
  have hkn : KeepN 41 W1 w' := fun k U cs hU hc => hku k U cs (fun e => by rw [e] at hU; revert hU; decide) hc
  have hblk := hku _ _ _ (by decide) hb.blk
  have hset : ∀ {Q : TypeId}, KeepN Q w' (w'.setCell ⟨gO, 1, none⟩ v') := fun {Q} => KeepN.set hblk (by decide) _ _
  have hso : ∀ (U : TypeId), U ≠ 29 → ∀ (k : Nat) (cs : Array Value), w'.heap[k]? = some (.cells cs U (0, 0)) → (w'.setCell ⟨gO, 1, none⟩ v').heap[k]? = some (.cells cs U (0, 0)) := fun U hU k cs hc => (Below.heap_setCell _ _ _ k (blk_types hc hblk hU)).trans hc
  have hz : w'.heap.size ≤ (w'.setCell ⟨gO, 1, none⟩ v').heap.size := ((Below.refl 0 w').setCell (p := ⟨gO, 1, none⟩) (Nat.zero_le _) v').size
  refine ⟨v', w', hr, hblk, ⟨?_, ?_, ?_, ?_, ?_, h.ne, h.hR, h.hO, h.hb, Nat.le_trans hg0 hz⟩, hkn.trans hset, Nat.le_trans hsz hz, hA⟩
  · exact blk_put hblk 1 v' (rfl : _ = (#[v0, v', .int .i64 n] : Array Value))
  · exact (Below.heap_setCell _ _ _ gR h.ne).trans (hku _ _ _ (by decide) hb.res)
  · exact (hb.r0.keep (fun k cs hc => hku k _ cs (by decide) hc) (fun k U cs hU hc => hkn k U cs hU hc)).keep (hso _ (by decide)) hset
  · exact ht.keep (hso _ (by decide)) hset
  · exact (hbb _ w h.hb h.bel).setCell (p := ⟨gO, 1, none⟩) h.hO v'
end
end Go.Proofs.Ytmnglonjekegcaa.Vw
namespace Go.Proofs.Ytmnglonjekegcaa.Vw
open Go Go.RowKit Go.Proofs.Ytmnglonjekegcaa.Rp Go.Proofs.YtmnglonjekegcaaW.PrintWords
set_option linter.unusedVariables false
set_option linter.unusedSimpArgs false
theorem tasks_are (l : List S47) : (namesV l).map (fun y => (valS l y).f0) = (readV l).f1 := by
  unfold readV
  rw [namesV_keys]
  refine List.map_congr_left fun y _ => ?_
  have hk := (OInv.of l y).key
  have hs := ofO_s l y
  unfold valS
  dsimp only
  rw [hs] at hk ⊢
  unfold toldT opens
  rw [List.length_map]
  generalize getT (throughV l).T y = s at hk ⊢
  obtain ⟨⟨a, b, c, d, e, f⟩, o⟩ := s
  dsimp only at hk ⊢
  rw [hk]
def logsV (l : List S47) : List Int := ((putsV l).map fun p => p.2.f4).foldl addI []
theorem logs_are (l : List S47) : (logsV l).map (fun k => logOf k ((putsV l).map Prod.snd)) = (readV l).f0 := by
  have e1 : logsV l = sortI ((throughV l).L.map (·.f0)) := by
    obtain ⟨h1, h2, _⟩ := fold_addI ((putsV l).map fun p => p.2.f4) []
    refine rising_sorted (h1 List.Pairwise.nil) (KInv.through l).ndL fun k => ?_
    show k ∈ List.foldl addI [] _ ↔ _
    rw [h2, through_split]
    show _ ↔ k ∈ (List.foldl putL [] _).map _
    rw [keys_puts]
    simp only [List.not_mem_nil, false_or, List.map_nil, List.mem_map]
    constructor
    · rintro ⟨p, hp, rfl⟩; exact ⟨p.2, ⟨p, hp, rfl⟩, rfl⟩
    · rintro ⟨x, ⟨p, hp, rfl⟩, rfl⟩; exact ⟨p, hp, rfl⟩
  unfold readV
  rw [e1]
  refine List.map_congr_left fun k _ => ?_
  rw [← told_get, told_puts]
theorem place_at (l : List S47) {j : Nat} (hj : j < (placesV l).length) : ∃ (m : Nat) (x : S47), (putsV l)[j]? = some ((m : Int), x) ∧ rd (placesV l) (j : Int) = (m : Int) ∧ l[m]? = some x := by
  unfold placesV at hj ⊢
  rw [List.length_map] at hj
  obtain ⟨m, e1, e2⟩ := puts_at l (putsV l)[j] (List.getElem_mem hj)
  refine ⟨m, (putsV l)[j].2, ?_, ?_, e2⟩
  · rw [List.getElem?_eq_getElem hj, ← e1]
  · unfold rd
    rw [Int.toNat_natCast, List.getD_eq_getElem?_getD, List.getElem?_map, List.getElem?_eq_getElem hj]
    exact e1
theorem places_len (l : List S47) (h : l.length ≤ 300) : (placesV l).length ≤ 90000 := by
  unfold placesV
  rw [List.length_map]
  exact Nat.le_trans (puts_len l) (Nat.le_trans (Nat.mul_le_mul h h) (by omega))
theorem logs_len (l : List S47) : (logsV l).length ≤ (placesV l).length := by
  have h := (fold_addI ((putsV l).map fun p => p.2.f4) []).2.2
  unfold logsV placesV
  rw [List.length_map] at h ⊢
  simpa using h
end Go.Proofs.Ytmnglonjekegcaa.Vw
namespace Go.Proofs.Ytmnglonjekegcaa.Vw
open Go Go.RowKit Go.Maps Go.Proofs.Ytmnglonjekegcaa.Mk Go.Proofs.Ytmnglonjekegcaa.Rp Go.Proofs.YtmnglonjekegcaaW.PrintWords Go.Proofs.YtmnglonjekegcaaW.PrintLast Go.Proofs.YtmnglonjekegcaaW.PrintMore Go.Proofs.Ytmnglonjekegcaa.Rw Go.Proofs.Ytmnglonjekegcaa.Ow Go.Proofs.Ytmnglonjekegcaa.Mono
set_option linter.unusedVariables false
set_option linter.unusedSimpArgs false
set_option maxRecDepth 100000
theorem own_C {w : World} {base n c : Nat} {A : Option Addr} {xs : List Int} (h : w.ownsRow base 3 1 (.slice A n c) n (cellsI xs)) (hn : xs.length = n) : Kd.C (Kd.int .i64) w A n xs := by
  obtain ⟨A', c', e, _, hC⟩ := intC h hn
  injection e with e _ _
  rw [e]
  exact hC
theorem RT.setO {α : Type} {d : Kd α} {T : TypeId} {w0 w : World} {base : Nat} {v : Value} {xs : List α} (h : RT d T w0 base w v xs) {g : Nat} {cs : Array Value} (hg : w.heap[g]? = some (.cells cs 29 (0, 0))) (hT : T ≠ 29) (i : Nat) (u : Value) : RT d T w0 base (w.setCell ⟨g, i, none⟩ u) v xs :=
  h.keep (fun k ds hc => (Below.heap_setCell _ _ _ k (blk_types hc hg hT)).trans hc) (KeepN.set hg (by decide) i u)
set_option maxHeartbeats 4000000 in
theorem rread_ok (A : Option Addr) (n c : Nat) (l : List S47) (w : World) (hC : Kd.C k47 w A n l) (hn : n ≤ 300) (hnc : n ≤ c) : Calls Try.prog 13 #[.slice A n c] w (ReadP w l) := by
  have HC := Aside0.mk hC
  have HLn := Aside0.mk hC.1
  clear hC
  go_enter Try.func13, Try.ntmps13
  go_upto_region 1 with fail
  have HR := Aside0.mk (heap_alloc_new w (.cells #[.slice none 0 0, .slice none 0 0, .int .i64 0] 29))
  have HB := Aside0.mk (below_alloc (Below.refl w.heap.size w) (.cells #[.slice none 0 0, .slice none 0 0, .int .i64 0] 29))
  generalize w.alloc (.cells #[.slice none 0 0, .slice none 0 0, .int .i64 0] 29) = w1 at HR HB ⊢
  obtain ⟨gR, HGR⟩ : ∃ g, Aside0 (w.heap.size = g) := ⟨_, ⟨rfl⟩⟩
  rw [HGR.out] at HR ⊢
  go_upto_region 2 with fail
  have HO := Aside0.mk (heap_alloc_new w1 (.cells #[.slice none 0 0, .slice none 0 0, .int .i64 (n : Int)] 29))
  have hb_ := below_alloc (Below.refl w1.heap.size w1) (.cells #[.slice none 0 0, .slice none 0 0, .int .i64 (n : Int)] 29)
  generalize w1.alloc (.cells #[.slice none 0 0, .slice none 0 0, .int .i64 (n : Int)] 29) = w2 at HO hb_ ⊢
  obtain ⟨gO, HGO⟩ : ∃ g, Aside0 (w1.heap.size = g) := ⟨_, ⟨rfl⟩⟩
  rw [HGO.out] at HO ⊢
  have HRO : Aside0 (gR ≠ gO ∧ w.heap.size ≤ gR ∧ w.heap.size ≤ gO) := ⟨by have := blk_lt HR.out; rw [← HGO.out]; have := HB.out.size; rw [← HGR.out] at *; omega⟩
  replace HR := Aside0.mk (blk_below HR.out hb_)
  replace HB := Aside0.mk (below_on HB.out HB.out.size hb_)
  clear hb_ HGR HGO
  go_wp2_with fail
  refine (names_ok A n c l w2 (Kd.C_below HC.out HB.out) hn hnc).mono ?_
  rintro e_ w3 ⟨v, rfl, hR_, hb_⟩
  have hown := own_R hR_
  obtain ⟨Av, cv, rfl⟩ := Kd.R_slice hR_
  obtain ⟨nm, HNM⟩ : ∃ nm, Aside0 (namesV l = nm) := ⟨_, ⟨rfl⟩⟩
  have HNL : Aside0 (nm.length ≤ 300) := ⟨by rw [← HNM.out]; have := namesV_len l; have := HLn.out; omega⟩
  rw [HNM.out] at hown ⊢
  obtain ⟨q, HQ⟩ : ∃ q, Aside0 (nm.length = q) := ⟨_, ⟨rfl⟩⟩
  rw [HQ.out] at hown HNL ⊢
  have hq3 := HNL.out
  have HOWN := Aside0.mk hown
  have HRD : Aside0 (RdI w w3 w3.heap.size gR gO (n : Int) (.slice none 0 0) (.slice none 0 0) [] []) := ⟨⟨blk_below HO.out hb_, blk_below HR.out hb_, RT.nil _ _ _ _ _, RT.nil _ _ _ _ _, below_on HB.out HB.out.size hb_, HRO.out.1, HRO.out.2.1, HRO.out.2.2, (below_on HB.out HB.out.size hb_).size, Nat.le_refl _⟩⟩
  clear hR_ hb_ hown HO HR HB
  go_wp2_with fail
  go_loopw [5] (fun vb wr => ∃ (i : Nat) (v1 : Value), i ≤ q ∧ vb = .int .i64 (i : Int) ∧ Aside0 (RdI w wr w3.heap.size gR gO (n : Int) (.slice none 0 0) v1 [] ((nm.take i).map fun y => (valS l y).f0)) ∧ Aside0 (KeepN 0 w3 wr)) (fun vb _ => q - (intOf vb).toNat)
  case atStart => exact ⟨0, _, Nat.zero_le _, rfl, ⟨by rw [List.take_zero]; exact HRD.out⟩, ⟨fun _ _ _ _ h => h⟩⟩
  case round =>
    clear HRD
    obtain ⟨i, v1, hi, rfl, HRD, HKN⟩ := hrel
    by_cases hlt : i < q
    · have h1 : decide ((i : Int) < (q : Int)) = true := by simp; omega
      have h1b : decide (i < q) = true := by simp; omega
      have hqi : (i : Int) < (q : Int) := by omega
      have HTK : Aside0 (nm.take (i + 1) = nm.take i ++ [rd nm (i : Int)]) := ⟨rd_get (by rw [HQ.out]; exact hlt)⟩
      obtain ⟨y, HY⟩ : ∃ y, Aside0 (rd nm (i : Int) = y) := ⟨_, ⟨rfl⟩⟩
      rw [HY.out] at HTK
      obtain ⟨ad, rfl, y_⟩ := Kd.at_int (own_C (HKN.out.own (by decide) HOWN.out) HQ.out) (i : Int) (Int.natCast_nonneg _) hqi
      rw [HY.out, Int.toNat_natCast] at y_
      have HTL : Aside0 (((nm.take i).map fun y => (valS l y).f0).length = i) := ⟨by rw [List.length_map, List.length_take, HQ.out]; omega⟩
      go_wp2_with fail
      refine (of_ok A n c l y w wr HRD.out.bel HC.out hn hnc).mono ?_
      rintro e_ w5 ⟨V, A3, c3, rfl, hb_, hW_, hl3_, hc3_⟩
      have hval : (valS l y).f0 = ⟨y, (ofO l y).s.t.f1, (ofO l y).s.t.f2, (ofO l y).s.t.f3, (ofO l y).s.t.f4, ((opens (ofO l y).s).length : Int)⟩ := rfl
      obtain ⟨o, HO⟩ : ∃ o, Aside0 (ofO l y = o) := ⟨_, ⟨rfl⟩⟩
      rw [HO.out] at hW_ hl3_ hc3_ hval ⊢
      obtain ⟨B0, d0, hv0, l0_, _⟩ := intC (hW_.own 0) rfl
      change V 0 = .slice B0 o.s.t.f4.length d0 at hv0
      obtain ⟨B1, d1, hv1, _, _⟩ := intC (hW_.own 1) rfl
      change V 1 = .slice B1 (opens o.s).length d1 at hv1
      obtain ⟨B2, d2, hv2, _, _⟩ := intC (hW_.own 2) rfl
      change V 2 = .slice B2 o.d.length d2 at hv2
      obtain ⟨B3, d3, hv3, _, _⟩ := intC (hW_.own 3) rfl
      change V 3 = .slice B3 o.a.length d3 at hv3
      have hK : ∀ W2, KeepN 41 w5 W2 → Below w.heap.size w W2 → k41.K W2 (⟨y, o.s.t.f1, o.s.t.f2, o.s.t.f3, o.s.t.f4, ((opens o.s).length : Int)⟩ : S41) [.int .i64 y, .int .i64 o.s.t.f1, .int .i64 o.s.t.f2, .slice A3 o.s.t.f3.length c3, .slice B0 o.s.t.f4.length d0, .int .i64 ((opens o.s).length : Int)] := fun W2 hk hB2 => by
        obtain ⟨B', d', e', _, hC'⟩ := intC (hk.own (by decide) (hW_.own 0)) rfl
        change V 0 = .slice B' o.s.t.f4.length d' at e'
        change Kd.C _ W2 B' o.s.t.f4.length o.s.t.f4 at hC'
        rw [hv0] at e'
        injection e' with e' _ _
        rw [← e'] at hC'
        exact k41_mk W2 (⟨y, o.s.t.f1, o.s.t.f2, o.s.t.f3, o.s.t.f4, ((opens o.s).length : Int)⟩ : S41) hl3_ (Kd.C_below hc3_ hB2) l0_ hC'
      rw [hv0, hv1, hv2, hv3]
      have HKK := Aside0.mk hK
      have HVL := Aside0.mk hval
      replace HRD := Aside0.mk (HRD.out.below hb_)
      replace HKN := Aside0.mk (HKN.out.trans (KeepN.below (T := 0) hb_))
      clear hb_ hW_ hl3_ hc3_ hv0 hv1 hv2 hv3 l0_ y_ hK hval
      go_upto_region 7 with fail
      have HX := Aside0.mk (heap_alloc_new w5 (.cells #[.int .i64 y, .int .i64 o.s.t.f1, .int .i64 o.s.t.f2, .slice A3 o.s.t.f3.length c3, .slice B0 o.s.t.f4.length d0, .int .i64 ((opens o.s).length : Int), .slice B1 (opens o.s).length d1, .slice B2 o.d.length d2, .slice B3 o.a.length d3] 70))
      have hb_ := below_alloc (Below.refl w5.heap.size w5) (.cells #[.int .i64 y, .int .i64 o.s.t.f1, .int .i64 o.s.t.f2, .slice A3 o.s.t.f3.length c3, .slice B0 o.s.t.f4.length d0, .int .i64 ((opens o.s).length : Int), .slice B1 (opens o.s).length d1, .slice B2 o.d.length d2, .slice B3 o.a.length d3] 70)
      generalize w5.alloc (.cells #[.int .i64 y, .int .i64 o.s.t.f1, .int .i64 o.s.t.f2, .slice A3 o.s.t.f3.length c3, .slice B0 o.s.t.f4.length d0, .int .i64 ((opens o.s).length : Int), .slice B1 (opens o.s).length d1, .slice B2 o.d.length d2, .slice B3 o.a.length d3] 70) = w6 at HX hb_ ⊢
      obtain ⟨gx, HGX⟩ : ∃ g, Aside0 (w5.heap.size = g) := ⟨_, ⟨rfl⟩⟩
      rw [HGX.out] at HX ⊢
      replace HRD := Aside0.mk (HRD.out.below hb_)
      replace HKN := Aside0.mk (HKN.out.trans (KeepN.below (T := 0) hb_))
      have HBx := Aside0.mk hb_
      clear hb_
      have x0_ := (blk_cell HX.out 0).trans (rfl : _ = some (.int .i64 y : Value))
      have x1_ := (blk_cell HX.out 1).trans (rfl : _ = some (.int .i64 o.s.t.f1 : Value))
      have x2_ := (blk_cell HX.out 2).trans (rfl : _ = some (.int .i64 o.s.t.f2 : Value))
      have x3_ := (blk_cell HX.out 3).trans (rfl : _ = some (.slice A3 o.s.t.f3.length c3 : Value))
      have x4_ := (blk_cell HX.out 4).trans (rfl : _ = some (.slice B0 o.s.t.f4.length d0 : Value))
      have x5_ := (blk_cell HX.out 5).trans (rfl : _ = some (.int .i64 ((opens o.s).length : Int) : Value))
      have hal_ := below_alloc (Below.refl w6.heap.size w6) (.cells #[.int .i64 y, .int .i64 o.s.t.f1, .int .i64 o.s.t.f2, .slice A3 o.s.t.f3.length c3, .slice B0 o.s.t.f4.length d0, .int .i64 ((opens o.s).length : Int)] 41)
      obtain ⟨v_, w7, hr_, hblk_, hrd_, hkn_, _, A6, c6, rfl⟩ := HRD.out.app1 hal_ (valS l y).f0 [.int .i64 y, .int .i64 o.s.t.f1, .int .i64 o.s.t.f2, .slice A3 o.s.t.f3.length c3, .slice B0 o.s.t.f4.length d0, .int .i64 ((opens o.s).length : Int)] (heap_alloc_new w6 (.cells #[.int .i64 y, .int .i64 o.s.t.f1, .int .i64 o.s.t.f2, .slice A3 o.s.t.f3.length c3, .slice B0 o.s.t.f4.length d0, .int .i64 ((opens o.s).length : Int)] 41)) rfl (by simp [Value.oneCell']) (fun W2 hk hB2 => by rw [HVL.out]; exact HKK.out W2 ((KeepN.below HBx.out).trans ((KeepN.below hal_).trans hk)) hB2) (by rw [HTL.out]; omega) 27 rfl
      rw [HTL.out] at hr_ hrd_ hkn_
      obtain ⟨v2, HV2⟩ : ∃ v, Aside0 (v1 = v) := ⟨_, ⟨rfl⟩⟩
      have HRR := Aside0.mk hr_
      have HRD2 : Aside0 (RdI w (w7.setCell ⟨gO, 1, none⟩ (.slice A6 (i + 1) c6)) w3.heap.size gR gO (n : Int) (.slice none 0 0) (.slice A6 (i + 1) c6) [] ((nm.take (i + 1)).map fun y => (valS l y).f0)) := ⟨by rw [HTK.out, List.map_append]; exact hrd_⟩
      have HKN2 : Aside0 (KeepN 0 w3 (w7.setCell ⟨gO, 1, none⟩ (.slice A6 (i + 1) c6))) := ⟨HKN.out.trans ((KeepN.below (T := 0) hal_).trans hkn_)⟩
      have o1_ := (blk_cell HRD.out.blk 1).trans (rfl : _ = some (v1 : Value))
      have z1_ := (blk_cell hblk_ 1).trans (rfl : _ = some (v1 : Value))
      have f1_ := blk_frozen hblk_ 1
      clear hal_ hr_ hrd_ hkn_ hblk_
      go_wp2_with (at_builtin; refine wpList_append_eq _ rfl (.tmp 35) (.tmp 38) 27 27 rfl _ _ rfl rfl HRR.out ?_)
      go_roundw
      case rel => exact ⟨i + 1, _, by omega, by go_num, HRD2, HKN2⟩
      case measure => simp [intOf]; omega
    · obtain rfl : q = i := by omega
      have h1b : decide (q < q) = false := by simp
      rw [List.take_of_length_le (by rw [HQ.out]; exact Nat.le_refl _)] at HRD
      have HTS : Aside0 ((nm.map fun y => (valS l y).f0) = (readV l).f1) := ⟨by rw [← HNM.out]; exact tasks_are l⟩
      rw [HTS.out] at HRD
      obtain ⟨ts, HTT⟩ : ∃ ts, Aside0 ((readV l).f1 = ts) := ⟨_, ⟨rfl⟩⟩
      rw [HTT.out] at HRD
      clear HKN HOWN HTS
      rename World => w4
      go_wp2_with fail
      refine (put_ok_ A n c l w4 (Kd.C_below HC.out HRD.out.bel) hn hnc).mono ?_
      rintro e_ w5 ⟨Ap, cp, rfl, hb_, hlp, hop⟩
      obtain ⟨pls, HPL⟩ : ∃ pls, Aside0 (placesV l = pls) := ⟨_, ⟨rfl⟩⟩
      have HPB : Aside0 (pls.length ≤ 90000) := ⟨by rw [← HPL.out]; exact places_len l (by rw [HLn.out]; exact hn)⟩
      have HLB : Aside0 ((logsV l).length ≤ 90000) := ⟨by have h := logs_len l; rw [HPL.out] at h; have := HPB.out; omega⟩
      have HPA : Aside0 (∀ j, j < pls.length → ∃ (m : Nat) (x : S47), (putsV l)[j]? = some ((m : Int), x) ∧ rd pls (j : Int) = (m : Int) ∧ l[m]? = some x) := ⟨by rw [← HPL.out]; exact fun j hj => place_at l hj⟩
      rw [HPL.out] at hop hlp ⊢
      obtain ⟨np, HNP⟩ : ∃ np, Aside0 (pls.length = np) := ⟨_, ⟨rfl⟩⟩
      rw [HNP.out] at hop hlp HPB HPA ⊢
      have hnp := HPB.out
      have HPO := Aside0.mk hop
      replace HRD := Aside0.mk (HRD.out.below hb_)
      clear hb_ hop hlp
      obtain ⟨fl, HFL⟩ : ∃ fl : Nat → List Int, Aside0 (∀ j, (((putsV l).take j).map fun p => p.2.f4).foldl addI [] = fl j) := ⟨_, ⟨fun _ => rfl⟩⟩
      have HFS : Aside0 (∀ (j : Nat) (p : Int × S47), (putsV l)[j]? = some p → fl (j + 1) = addI (fl j) p.2.f4) := ⟨fun j p hp => by
        obtain ⟨a, e⟩ := List.getElem?_eq_some_iff.1 hp
        rw [← HFL.out, ← HFL.out, List.take_succ_eq_append_getElem a, e, List.map_append, List.foldl_append]
        rfl⟩
      have HFB : Aside0 (∀ j, (fl j).length ≤ j) := ⟨fun j => by
        rw [← HFL.out]
        have h := (fold_addI (((putsV l).take j).map fun p => p.2.f4) []).2.2
        rw [List.length_map, List.length_take, List.length_nil] at h
        omega⟩
      have HPLL : Aside0 ((putsV l).length = np) := ⟨by rw [← HNP.out, ← HPL.out]; unfold placesV; rw [List.length_map]⟩
      have HFE : Aside0 (fl np = logsV l) := ⟨by rw [← HFL.out, List.take_of_length_le (by rw [HPLL.out]; exact Nat.le_refl _)]; rfl⟩
      have HF0 : Aside0 (fl 0 = []) := ⟨by rw [← HFL.out]; rfl⟩
      clear HFL
      go_wp2_with fail
      go_loopw [9, 10] (fun va vb wr => ∃ (i : Nat) (v9 : Value), i ≤ np ∧ v9 = va ∧ vb = .int .i64 (i : Int) ∧ Aside0 (Kd.R (Kd.int .i64) 3 wr w5.heap.size (fun _ => True) v9 (fl i)) ∧ Aside0 (Below w5.heap.size w5 wr)) (fun _ vb _ => np - (intOf vb).toNat)
      case atStart => exact ⟨0, _, Nat.zero_le _, rfl, rfl, ⟨by rw [HF0.out]; exact Kd.R_nil _ _ _ _ _⟩, ⟨Below.refl _ _⟩⟩
      case round =>
        obtain ⟨i, v9, hi, rfl, rfl, HLR, HB5⟩ := hrel
        by_cases hlt : i < np
        · have g1_ : decide ((i : Int) < (np : Int)) = true := by simp; omega
          have g1b_ : decide (i < np) = true := by simp; omega
          have hqi : (i : Int) < (np : Int) := by omega
          obtain ⟨m, x, hp, hm, hx⟩ := HPA.out i hlt
          have HFN := Aside0.mk (HFS.out i _ hp)
          have hmn : m < n := by have := (List.getElem?_eq_some_iff.1 hx).1; have := HLn.out; omega
          obtain ⟨ad, rfl, p_⟩ := Kd.at_int (own_C (own_below HPO.out HB5.out) HNP.out) (i : Int) (Int.natCast_nonneg _) hqi
          rw [hm, Int.toNat_natCast] at p_
          obtain ⟨ad2, A9, c9, A10, c10, rfl, hcells⟩ := at_T47 HC.out (m : Int) (Int.natCast_nonneg _) (Int.ofNat_lt.2 hmn)
          rw [rd_eq hx] at hcells
          obtain ⟨_, _, _, _, x4_, _, _, _, _, _, _, _, _, _, _⟩ := hcells
          rw [Int.toNat_natCast] at x4_
          replace x4_ := pw_cell_below (below_step HRD.out.bel HB5.out) x4_
          have hmi : (m : Int) < (n : Int) := by omega
          have hm0 : (0 : Int) ≤ (m : Int) := Int.natCast_nonneg _
          have hfb := HFB.out i
          clear hp hm hx
          go_wp2_with fail
          refine (tidemillref11_add.calls ((fl i).length + 1) (fun _ => True) v9 (fl i) x.f4 (addI (fl i) x.f4) w5 wr HB5.out HLR.out (add_f _ _ (by omega))).mono ?_
          rintro e_ wz ⟨v0_, rfl, hR_, hb_, _⟩
          have HR2 := Aside0.mk (Kd.R_mono hR_ fun _ _ => trivial)
          have HB2 := Aside0.mk hb_
          clear hR_ hb_ x4_ p_
          go_wp2_with fail
          go_roundw
          case rel => exact ⟨i + 1, _, by omega, rfl, by go_num, ⟨by rw [HFN.out]; exact HR2.out⟩, HB2⟩
          case measure => simp [intOf]; omega
        · obtain rfl : np = i := by omega
          have g1b_ : decide (np < np) = false := by simp
          rw [HFE.out] at HLR
          have hlo := own_R HLR.out
          obtain ⟨Al, cl, rfl⟩ := Kd.R_slice HLR.out
          have HLE := Aside0.mk (logs_are l)
          obtain ⟨lg, HLG⟩ : ∃ lg, Aside0 (logsV l = lg) := ⟨_, ⟨rfl⟩⟩
          rw [HLG.out] at hlo HLE HLB ⊢
          obtain ⟨nl, HNLL⟩ : ∃ nl, Aside0 (lg.length = nl) := ⟨_, ⟨rfl⟩⟩
          rw [HNLL.out] at hlo HLB ⊢
          have hnl := HLB.out
          have HLO := Aside0.mk hlo
          replace HRD := Aside0.mk (HRD.out.below HB5.out)
          replace HPO := Aside0.mk (own_below HPO.out HB5.out)
          rename World => w6
          obtain ⟨ps, HPS⟩ : ∃ ps, Aside0 ((putsV l).map Prod.snd = ps) := ⟨_, ⟨rfl⟩⟩
          have HPA2 : Aside0 (∀ j, j < np → ∃ (m : Nat) (x : S47), ps[j]? = some x ∧ rd pls (j : Int) = (m : Int) ∧ l[m]? = some x) := ⟨fun j hj => by
            obtain ⟨m, x, h1, h2, h3⟩ := HPA.out j hj
            exact ⟨m, x, by rw [← HPS.out, List.getElem?_map, h1]; rfl, h2, h3⟩⟩
          have HPSL : Aside0 (ps.length = np) := ⟨by rw [← HPS.out, List.length_map, HPLL.out]⟩
          rw [HPS.out] at HLE
          clear hlo HLR HB5 HPA HFS HFB HFE HF0 HPLL
          go_wp2_with fail
          go_loopw [11] (fun vb wr => ∃ (i : Nat) (v0 v1 : Value), i ≤ nl ∧ vb = .int .i64 (i : Int) ∧ Aside0 (RdI w wr w3.heap.size gR gO (n : Int) v0 v1 ((lg.take i).map fun k => logOf k ps) ts) ∧ Aside0 (KeepN 0 w6 wr)) (fun vb _ => nl - (intOf vb).toNat)
          case atStart => exact ⟨0, _, _, Nat.zero_le _, rfl, ⟨by rw [List.take_zero]; exact HRD.out⟩, ⟨fun _ _ _ _ h => h⟩⟩
          case round =>
            clear HRD
            obtain ⟨i, v0, v1, hi, rfl, HRD, HKN⟩ := hrel
            rename World => wi
            have HPI := Aside0.mk (HKN.out.own (by decide) HPO.out)
            have HLI := Aside0.mk (HKN.out.own (by decide) HLO.out)
            by_cases hlt : i < nl
            · have h1 : decide ((i : Int) < (nl : Int)) = true := by simp; omega
              have h1b2 : decide (i < nl) = true := by simp; omega
              have hqi : (i : Int) < (nl : Int) := by omega
              have HTK : Aside0 (lg.take (i + 1) = lg.take i ++ [rd lg (i : Int)]) := ⟨rd_get (by rw [HNLL.out]; exact hlt)⟩
              obtain ⟨k, HKK⟩ : ∃ k, Aside0 (rd lg (i : Int) = k) := ⟨_, ⟨rfl⟩⟩
              rw [HKK.out] at HTK
              obtain ⟨al, rfl, k_⟩ := Kd.at_int (own_C HLI.out HNLL.out) (i : Int) (Int.natCast_nonneg _) hqi
              rw [HKK.out, Int.toNat_natCast] at k_
              have HLK : Aside0 (wi.cell? (al.add i) = some (.int .i64 k) ∧ (i : Int) < (nl : Int)) := ⟨⟨k_, hqi⟩⟩
              have HTL : Aside0 (((lg.take i).map fun k => logOf k ps).length = i) := ⟨by rw [List.length_map, List.length_take, HNLL.out]; omega⟩
              go_upto_region 18 with fail
              clear k_
              have HGV0 := Aside0.mk (heap_alloc_new wi (.cells #[.int .i64 k, .slice none 0 0, .slice none 0 0] 36))
              have HBJ0 := Aside0.mk (below_alloc (Below.refl wi.heap.size wi) (.cells #[.int .i64 k, .slice none 0 0, .slice none 0 0] 36))
              generalize wi.alloc (.cells #[.int .i64 k, .slice none 0 0, .slice none 0 0] 36) = wv at HGV0 HBJ0 ⊢
              obtain ⟨gv, HGG⟩ : ∃ g, Aside0 (wi.heap.size = g) := ⟨_, ⟨rfl⟩⟩
              rw [HGG.out] at HGV0 ⊢
              have HGVB : Aside0 (wi.heap.size ≤ gv) := ⟨by rw [HGG.out]; exact Nat.le_refl _⟩
              go_wp2_with fail
              go_loopw [13] (fun vb wj => ∃ (j mr md : Nat) (Ar Ad : Option Addr) (cr cd : Nat) (rj : List S45) (dj : List Bool), j ≤ np ∧ vb = .int .i64 (j : Int) ∧ mr ≤ j ∧ md ≤ j ∧ Aside0 ((((ps.take j).filter fun x => k == x.f4).map (·.f5)) = rj ∧ (((ps.take j).filter fun x => k == x.f4).map (·.f6)) = dj) ∧ Aside0 (rj.length = mr ∧ dj.length = md) ∧ Aside0 (Below wi.heap.size wi wj) ∧ Aside0 (wj.heap[gv]? = some (.cells #[.int .i64 k, .slice Ar mr cr, .slice Ad md cd] 36 (0, 0))) ∧ Aside0 (wj.ownsRow wi.heap.size 45 3 (.slice Ar mr cr) mr (cellsR rj)) ∧ Aside0 (wj.ownsRow wi.heap.size 4 1 (.slice Ad md cd) md (cellsB dj))) (fun vb _ => np - (intOf vb).toNat)
              case atStart => exact ⟨0, 0, 0, none, none, 0, 0, [], [], Nat.zero_le _, rfl, Nat.le_refl _, Nat.le_refl _, ⟨rfl, rfl⟩, ⟨rfl, rfl⟩, HBJ0, HGV0, ⟨World.ownsRow_nil _ _ _ _⟩, ⟨World.ownsRow_nil _ _ _ _⟩⟩
              case round =>
                clear HGV0 HBJ0
                obtain ⟨j, mr, md, Ar, Ad, cr, cd, rj, dj, hj, rfl, hmr, hmd, HFJ, HLJ, HBJ, HGV, HOR, HOD⟩ := hrel
                rename World => wj
                by_cases hjl : j < np
                · have j1_ : decide ((j : Int) < (np : Int)) = true := by simp; omega
                  have j1b_ : decide (j < np) = true := by simp; omega
                  have hjq : (j : Int) < (np : Int) := by omega
                  obtain ⟨m, x, hp, hm, hx⟩ := HPA2.out j hjl
                  have HTJ : Aside0 (ps.take (j + 1) = ps.take j ++ [x]) := ⟨by obtain ⟨a, e⟩ := List.getElem?_eq_some_iff.1 hp; rw [List.take_succ_eq_append_getElem a, e]⟩
                  have hmn : m < n := by have := (List.getElem?_eq_some_iff.1 hx).1; have := HLn.out; omega
                  obtain ⟨ap, rfl, p_⟩ := Kd.at_int (own_C HPI.out HNP.out) (j : Int) (Int.natCast_nonneg _) hjq
                  rw [hm, Int.toNat_natCast] at p_
                  obtain ⟨ad2, A9, c9, A10, c10, rfl, hcells⟩ := at_T47 HC.out (m : Int) (Int.natCast_nonneg _) (Int.ofNat_lt.2 hmn)
                  rw [rd_eq hx] at hcells
                  obtain ⟨_, _, _, _, x4_, x5_, x6_, x7_, x8_, _, _, _, _, _, _⟩ := hcells
                  rw [Int.toNat_natCast] at x4_ x5_ x6_ x7_ x8_
                  have HPC0 := Aside0.mk (And.intro p_ trivial)
                  have HXC0 := Aside0.mk (And.intro (pw_cell_below HRD.out.bel x4_) (And.intro (pw_cell_below HRD.out.bel x5_) (And.intro (pw_cell_below HRD.out.bel x6_) (And.intro (pw_cell_below HRD.out.bel x7_) (pw_cell_below HRD.out.bel x8_)))))
                  have hmi : (m : Int) < (n : Int) := by omega
                  have hm0 : (0 : Int) ≤ (m : Int) := Int.natCast_nonneg _
                  clear hp hm hx p_ x4_ x5_ x6_ x7_ x8_
                  have p_ := pw_cell_below HBJ.out HPC0.out.1
                  have x4_ := pw_cell_below HBJ.out HXC0.out.1
                  have k_ := pw_cell_below HBJ.out HLK.out.1
                  have hqi2 := HLK.out.2
                  by_cases hxk : x.f4 = k
                  · have e_ : (x.f4 == k) = true := by simpa using hxk
                    have HFN : Aside0 ((((ps.take (j + 1)).filter fun x => k == x.f4).map (·.f5)) = rj ++ [x.f5] ∧ (((ps.take (j + 1)).filter fun x => k == x.f4).map (·.f6)) = dj ++ [x.f6]) := ⟨by
                      rw [HTJ.out, List.filter_append, List.map_append, List.map_append, HFJ.out.1, HFJ.out.2, List.filter_cons_of_pos (by simpa using hxk.symm)]
                      exact ⟨rfl, rfl⟩⟩
                    clear hxk
                    go_upto_region 21 with fail
                    go_quiet (fail)
                    generalize HWQ : wj.drewN _ = wq
                    have hbq : Below wj.heap.size wj wq := by rw [← HWQ]; exact pw_below_drewN (Below.refl _ _) _
                    clear HWQ p_ x4_ k_
                    replace HGV := Aside0.mk (blk_below HGV.out hbq)
                    replace HOR := Aside0.mk (own_below HOR.out hbq)
                    replace HOD := Aside0.mk (own_below HOD.out hbq)
                    replace HBJ := Aside0.mk (below_on HBJ.out HBJ.out.size hbq)
                    clear hbq
                    have HPC := Aside0.mk (And.intro (pw_cell_below HBJ.out HPC0.out.1) trivial)
                    have HXC := Aside0.mk (And.intro (pw_cell_below HBJ.out HXC0.out.1) (And.intro (pw_cell_below HBJ.out HXC0.out.2.1) (And.intro (pw_cell_below HBJ.out HXC0.out.2.2.1) (And.intro (pw_cell_below HBJ.out HXC0.out.2.2.2.1) (pw_cell_below HBJ.out HXC0.out.2.2.2.2)))))
                    go_upto_region 22 with fail
                    refine start_ (n := 14) (S := fun w' => Below wq.heap.size wq w') (ds := [11, 13]) #[false, false, false, false, false, false, false, false, false, false, false, false, false, false] (by kernel_rfl) rfl rfl (below_drew (Below.refl _ _)) (fun hHeld => ?_)
                    refine pure_ (i := 0) (N := some 89) (v := ?_) (a' := ?_) #[true, false, false, false, false, false, false, false, false, false, false, false, false, false] rfl rfl (by kernel_rfl) (fun _ _ _ h => h) (Or.inl ⟨by rfl, ?_⟩) ?_ ?_
                    rotate_left
                    · intro w'
                      go_simp
                      with_reducible rfl
                    rotate_left
                    · simp only [Act.put, List.setIfInBounds_toArray, List.set_cons_zero, List.set_cons_succ, i64_w, i32_w]
                      rfl
                    refine pure_ (i := 2) (N := some 91) (v := ?_) (a' := ?_) #[true, false, true, false, false, false, false, false, false, false, false, false, false, false] rfl rfl (by kernel_rfl) (fun _ _ _ h => h) (Or.inl ⟨by rfl, ?_⟩) ?_ ?_
                    rotate_left
                    · intro w'
                      go_simp
                      with_reducible rfl
                    rotate_left
                    · simp only [Act.put, List.setIfInBounds_toArray, List.set_cons_zero, List.set_cons_succ, i64_w, i32_w]
                      rfl
                    refine pure_ (i := 3) (N := some 92) (v := ?_) (a' := ?_) #[true, false, true, true, false, false, false, false, false, false, false, false, false, false] rfl rfl (by kernel_rfl) (fun _ _ _ h => h) (Or.inl ⟨by rfl, ?_⟩) ?_ ?_
                    rotate_left
                    · intro w'
                      go_simp
                      with_reducible rfl
                    rotate_left
                    · simp only [Act.put, List.setIfInBounds_toArray, List.set_cons_zero, List.set_cons_succ, i64_w, i32_w]
                      rfl
                    refine pure_ (i := 4) (N := some 93) (v := ?_) (a' := ?_) #[true, false, true, true, true, false, false, false, false, false, false, false, false, false] rfl rfl (by kernel_rfl) (fun _ _ _ h => h) (Or.inl ⟨by rfl, ?_⟩) ?_ ?_
                    rotate_left
                    · intro w'
                      go_simp
                      with_reducible rfl
                    rotate_left
                    · simp only [Act.put, List.setIfInBounds_toArray, List.set_cons_zero, List.set_cons_succ, i64_w, i32_w]
                      rfl
                    refine pure_ (i := 5) (N := some 94) (v := ?_) (a' := ?_) #[true, false, true, true, true, true, false, false, false, false, false, false, false, false] rfl rfl (by kernel_rfl) (fun _ _ _ h => h) (Or.inl ⟨by rfl, ?_⟩) ?_ ?_
                    rotate_left
                    · intro w'
                      go_simp
                      with_reducible rfl
                    rotate_left
                    · simp only [Act.put, List.setIfInBounds_toArray, List.set_cons_zero, List.set_cons_succ, i64_w, i32_w]
                      rfl
                    refine take_ (i := 1) (N := some 90) (v := ?_) (a' := ?_) #[true, true, true, true, true, true, false, false, false, false, false, false, false, false] rfl rfl (by kernel_rfl) (fun _ _ _ h => h) (Or.inl ⟨by rfl, ?_⟩) hHeld ?_ ?_
                    rotate_left
                    · intro w' hS
                      have c_ := (blk_cell (blk_below HGV.out hS) 1).trans (rfl : _ = some (.slice Ar mr cr : Value))
                      go_simp
                      with_reducible rfl
                    rotate_left
                    · simp only [Act.put, List.setIfInBounds_toArray, List.set_cons_zero, List.set_cons_succ, i64_w, i32_w]
                      rfl
                    refine take_ (i := 6) (N := some 95) (v := ?_) (a' := ?_) #[true, true, true, true, true, true, true, false, false, false, false, false, false, false] rfl rfl (by kernel_rfl) (fun _ _ _ h => h) (Or.inl ⟨by rfl, ?_⟩) hHeld ?_ ?_
                    rotate_left
                    · intro w' hS
                      have c_ := pw_cell_below hS HPC.out.1
                      go_simp
                      with_reducible rfl
                    rotate_left
                    · simp only [Act.put, List.setIfInBounds_toArray, List.set_cons_zero, List.set_cons_succ, i64_w, i32_w]
                      rfl
                    refine pure_ (i := 7) (N := some 96) (v := ?_) (a' := ?_) #[true, true, true, true, true, true, true, true, false, false, false, false, false, false] rfl rfl (by kernel_rfl) (fun _ _ _ h => h) (Or.inl ⟨by rfl, ?_⟩) ?_ ?_
                    rotate_left
                    · intro w'
                      go_simp
                      with_reducible rfl
                    rotate_left
                    · simp only [Act.put, List.setIfInBounds_toArray, List.set_cons_zero, List.set_cons_succ, i64_w, i32_w]
                      rfl
                    refine pure_ (i := 8) (N := some 97) (v := ?_) (a' := ?_) #[true, true, true, true, true, true, true, true, true, false, false, false, false, false] rfl rfl (by kernel_rfl) (fun _ _ _ h => h) (Or.inl ⟨by rfl, ?_⟩) ?_ ?_
                    rotate_left
                    · intro w'
                      go_simp
                      with_reducible rfl
                    rotate_left
                    · simp only [Act.put, List.setIfInBounds_toArray, List.set_cons_zero, List.set_cons_succ, i64_w, i32_w]
                      rfl
                    refine take_ (i := 9) (N := some 98) (v := ?_) (a' := ?_) #[true, true, true, true, true, true, true, true, true, true, false, false, false, false] rfl rfl (by kernel_rfl) (fun _ _ _ h => h) (Or.inl ⟨by rfl, ?_⟩) hHeld ?_ ?_
                    rotate_left
                    · intro w' hS
                      have c_ := pw_cell_below hS HXC.out.2.1
                      have d_ := pw_cell_below hS HXC.out.2.2.1
                      have e_ := pw_cell_below hS HXC.out.2.2.2.1
                      go_simp
                      with_reducible rfl
                    rotate_left
                    · simp only [Act.put, List.setIfInBounds_toArray, List.set_cons_zero, List.set_cons_succ, i64_w, i32_w]
                      rfl
                    refine one_ (i := 10) (N := some 99) #[true, true, true, true, true, true, true, true, true, true, true, false, false, false] rfl rfl (by kernel_rfl) (by simp) (fun K hK => ?_)
                    refine value_ (w1 := wq.drew.alloc (.cells #[.int .i64 x.f5.f0, .int .i64 x.f5.f1, .int .i64 x.f5.f2] 45)) (v := .slice (some ⟨wq.drew.heap.size, 0, none⟩) 1 1) (by rfl) rfl (by first | (go_simp; done) | (go_simp; rfl)) ?_
                    have hb_ := below_alloc (Below.refl wq.drew.heap.size wq.drew) (.cells #[.int .i64 x.f5.f0, .int .i64 x.f5.f1, .int .i64 x.f5.f2] 45)
                    replace hb_ := below_step hHeld hb_
                    refine hK.out _ _ hb_ (fun _ => ?_)
                    clear hK K
                    refine norm_ (a' := ?_) ?_ ?_
                    rotate_left
                    · show Act.put _ (some 99) _ = _
                      simp only [Act.put, List.setIfInBounds_toArray, List.set_cons_zero, List.set_cons_succ, i64_w, i32_w]
                      rfl
                    have HNW := Aside0.mk (heap_alloc_new wq.drew (.cells #[.int .i64 x.f5.f0, .int .i64 x.f5.f1, .int .i64 x.f5.f2] 45))
                    replace hHeld := hb_
                    generalize wq.drew.alloc (.cells #[.int .i64 x.f5.f0, .int .i64 x.f5.f1, .int .i64 x.f5.f2] 45) = we at HNW hHeld hb_ ⊢
                    obtain ⟨gl, HGL⟩ : ∃ g, Aside0 (wq.drew.heap.size = g) := ⟨_, ⟨rfl⟩⟩
                    rw [HGL.out] at HNW ⊢
                    clear hb_
                    refine last_ (i := 11) (N := some 100) #[true, true, true, true, true, true, true, true, true, true, true, true, false, false] rfl rfl (by kernel_rfl) (by simp) (fun K hK => ?_)
                    obtain ⟨v_, wf, hr_, ho_, hg_, _, A7, c7, rfl⟩ := app_one TIR 33 rfl we wi.heap.size mr (.slice Ar mr cr) (cellsR rj) (own_below HOR.out hHeld) gl 1 [.int .i64 x.f5.f0, .int .i64 x.f5.f1, .int .i64 x.f5.f2] HNW.out rfl (by simp [Value.oneCell']) (by omega) (by decide) (Nat.le_trans HBJ.out.size hHeld.size)
                    have HR7 := Aside0.mk ho_
                    have HG7 := Aside0.mk (blk_grown (blk_below HGV.out hHeld) hg_ (fun e => by obtain ⟨cur, hc⟩ := own_block (own_below HOR.out hHeld) e; exact blk_types (blk_below HGV.out hHeld) hc (by decide) rfl))
                    have HB7 := Aside0.mk ((below_on HBJ.out HBJ.out.size hHeld).grown hg_ (Nat.le_trans HBJ.out.size hHeld.size) fun k hk => (Ow.own_lt (own_below HOR.out hHeld) k hk).1)
                    have HO7 := Aside0.mk (own_kept (own_below HOD.out hHeld) fun k e => hg_.block k (Ow.own_lt (own_below HOD.out hHeld) k e.symm).2 fun e2 => by obtain ⟨cur, hc⟩ := own_block (own_below HOD.out hHeld) e; obtain ⟨cur2, hc2⟩ := own_block (own_below HOR.out hHeld) e2; exact blk_types hc hc2 (by decide) rfl)
                    refine value_ (w1 := wf) (v := .slice A7 (mr + 1) c7) (by rfl) rfl (append_exec (.tmp 90) (.tmp 99) 33 rfl rfl rfl hr_) ?_
                    clear hr_ ho_ hg_ hHeld
                    refine hK.out _ _ ?_
                    clear hK K
                    refine norm_ (a' := ?_) ?_ ?_
                    rotate_left
                    · show Act.put _ (some 100) _ = _
                      simp only [Act.put, List.setIfInBounds_toArray, List.set_cons_zero, List.set_cons_succ, i64_w, i32_w]
                      rfl
                    refine pure_ (i := 12) (N := some 101) (v := ?_) (a' := ?_) #[true, true, true, true, true, true, true, true, true, true, true, true, true, false] rfl rfl (by kernel_rfl) (fun _ _ _ h => h) (Or.inl ⟨by rfl, ?_⟩) ?_ ?_
                    rotate_left
                    · intro w'
                      go_simp
                      with_reducible rfl
                    rotate_left
                    · simp only [Act.put, List.setIfInBounds_toArray, List.set_cons_zero, List.set_cons_succ, i64_w, i32_w]
                      rfl
                    refine last_ (i := 13) (N := none) #[true, true, true, true, true, true, true, true, true, true, true, true, true, true] rfl rfl (by kernel_rfl) (by simp) (fun K hK => ?_)
                    have z_ := (blk_cell HG7.out 1).trans (rfl : _ = some (.slice Ar mr cr : Value))
                    have f_ := blk_frozen HG7.out 1
                    refine skip_ (w1 := wf.setCell ⟨gv, 1, none⟩ (.slice A7 (mr + 1) c7)) (by rfl) rfl (by first | (go_simp; done) | (go_simp; rfl)) ?_
                    clear z_ f_
                    refine hK.out _ _ ?_
                    clear hK K
                    refine done_ (by kernel_rfl) ?_

                    have HG8 := Aside0.mk (blk_put HG7.out 1 (.slice A7 (mr + 1) c7) (rfl : _ = (#[.int .i64 k, .slice A7 (mr + 1) c7, .slice Ad md cd] : Array Value)))
                    have HB8 := Aside0.mk (HB7.out.setCell (p := ⟨gv, 1, none⟩) HGVB.out (.slice A7 (mr + 1) c7))
                    have HR8 := Aside0.mk (own_kept (w' := wf.setCell ⟨gv, 1, none⟩ (.slice A7 (mr + 1) c7)) HR7.out fun k e => by obtain ⟨cur, hc⟩ := own_block HR7.out e; exact Below.heap_setCell _ _ _ k (blk_types hc HG7.out (by decide)))
                    have HD8 := Aside0.mk (own_kept (w' := wf.setCell ⟨gv, 1, none⟩ (.slice A7 (mr + 1) c7)) HO7.out fun k e => by obtain ⟨cur, hc⟩ := own_block HO7.out e; exact Below.heap_setCell _ _ _ k (blk_types hc HG7.out (by decide)))
                    generalize wf.setCell ⟨gv, 1, none⟩ (.slice A7 (mr + 1) c7) = wq at HG8 HB8 HR8 HD8 ⊢
                    clear HGV HOR HOD HBJ HPC HXC HG7 HB7 HR7 HO7 HNW HGL
                    have HGV := HG8
                    have HBJ := HB8
                    have HOR := HR8
                    have HOD := HD8
                    have HPC := Aside0.mk (And.intro (pw_cell_below HBJ.out HPC0.out.1) trivial)
                    have HXC := Aside0.mk (And.intro (pw_cell_below HBJ.out HXC0.out.1) (And.intro (pw_cell_below HBJ.out HXC0.out.2.1) (And.intro (pw_cell_below HBJ.out HXC0.out.2.2.1) (And.intro (pw_cell_below HBJ.out HXC0.out.2.2.2.1) (pw_cell_below HBJ.out HXC0.out.2.2.2.2)))))
                    clear HG8 HB8 HR8 HD8
                    obtain ⟨A6r, HA6⟩ : ∃ z, Aside0 (A7 = z) := ⟨_, ⟨rfl⟩⟩
                    obtain ⟨c6r, HC6⟩ : ∃ z, Aside0 (c7 = z) := ⟨_, ⟨rfl⟩⟩
                    rw [HA6.out, HC6.out] at HGV HOR
                    go_upto_region 23 with fail
                    refine start_ (n := 14) (S := fun w' => Below wq.heap.size wq w') (ds := [11, 13]) #[false, false, false, false, false, false, false, false, false, false, false, false, false, false] (by kernel_rfl) rfl rfl (below_drew (Below.refl _ _)) (fun hHeld => ?_)
                    refine pure_ (i := 0) (N := some 102) (v := ?_) (a' := ?_) #[true, false, false, false, false, false, false, false, false, false, false, false, false, false] rfl rfl (by kernel_rfl) (fun _ _ _ h => h) (Or.inl ⟨by rfl, ?_⟩) ?_ ?_
                    rotate_left
                    · intro w'
                      go_simp
                      with_reducible rfl
                    rotate_left
                    · simp only [Act.put, List.setIfInBounds_toArray, List.set_cons_zero, List.set_cons_succ, i64_w, i32_w]
                      rfl
                    refine pure_ (i := 2) (N := some 104) (v := ?_) (a' := ?_) #[true, false, true, false, false, false, false, false, false, false, false, false, false, false] rfl rfl (by kernel_rfl) (fun _ _ _ h => h) (Or.inl ⟨by rfl, ?_⟩) ?_ ?_
                    rotate_left
                    · intro w'
                      go_simp
                      with_reducible rfl
                    rotate_left
                    · simp only [Act.put, List.setIfInBounds_toArray, List.set_cons_zero, List.set_cons_succ, i64_w, i32_w]
                      rfl
                    refine pure_ (i := 3) (N := some 105) (v := ?_) (a' := ?_) #[true, false, true, true, false, false, false, false, false, false, false, false, false, false] rfl rfl (by kernel_rfl) (fun _ _ _ h => h) (Or.inl ⟨by rfl, ?_⟩) ?_ ?_
                    rotate_left
                    · intro w'
                      go_simp
                      with_reducible rfl
                    rotate_left
                    · simp only [Act.put, List.setIfInBounds_toArray, List.set_cons_zero, List.set_cons_succ, i64_w, i32_w]
                      rfl
                    refine pure_ (i := 4) (N := some 106) (v := ?_) (a' := ?_) #[true, false, true, true, true, false, false, false, false, false, false, false, false, false] rfl rfl (by kernel_rfl) (fun _ _ _ h => h) (Or.inl ⟨by rfl, ?_⟩) ?_ ?_
                    rotate_left
                    · intro w'
                      go_simp
                      with_reducible rfl
                    rotate_left
                    · simp only [Act.put, List.setIfInBounds_toArray, List.set_cons_zero, List.set_cons_succ, i64_w, i32_w]
                      rfl
                    refine pure_ (i := 5) (N := some 107) (v := ?_) (a' := ?_) #[true, false, true, true, true, true, false, false, false, false, false, false, false, false] rfl rfl (by kernel_rfl) (fun _ _ _ h => h) (Or.inl ⟨by rfl, ?_⟩) ?_ ?_
                    rotate_left
                    · intro w'
                      go_simp
                      with_reducible rfl
                    rotate_left
                    · simp only [Act.put, List.setIfInBounds_toArray, List.set_cons_zero, List.set_cons_succ, i64_w, i32_w]
                      rfl
                    refine take_ (i := 1) (N := some 103) (v := ?_) (a' := ?_) #[true, true, true, true, true, true, false, false, false, false, false, false, false, false] rfl rfl (by kernel_rfl) (fun _ _ _ h => h) (Or.inl ⟨by rfl, ?_⟩) hHeld ?_ ?_
                    rotate_left
                    · intro w' hS
                      have c_ := (blk_cell (blk_below HGV.out hS) 2).trans (rfl : _ = some (.slice Ad md cd : Value))
                      go_simp
                      with_reducible rfl
                    rotate_left
                    · simp only [Act.put, List.setIfInBounds_toArray, List.set_cons_zero, List.set_cons_succ, i64_w, i32_w]
                      rfl
                    refine take_ (i := 6) (N := some 108) (v := ?_) (a' := ?_) #[true, true, true, true, true, true, true, false, false, false, false, false, false, false] rfl rfl (by kernel_rfl) (fun _ _ _ h => h) (Or.inl ⟨by rfl, ?_⟩) hHeld ?_ ?_
                    rotate_left
                    · intro w' hS
                      have c_ := pw_cell_below hS HPC.out.1
                      go_simp
                      with_reducible rfl
                    rotate_left
                    · simp only [Act.put, List.setIfInBounds_toArray, List.set_cons_zero, List.set_cons_succ, i64_w, i32_w]
                      rfl
                    refine pure_ (i := 7) (N := some 109) (v := ?_) (a' := ?_) #[true, true, true, true, true, true, true, true, false, false, false, false, false, false] rfl rfl (by kernel_rfl) (fun _ _ _ h => h) (Or.inl ⟨by rfl, ?_⟩) ?_ ?_
                    rotate_left
                    · intro w'
                      go_simp
                      with_reducible rfl
                    rotate_left
                    · simp only [Act.put, List.setIfInBounds_toArray, List.set_cons_zero, List.set_cons_succ, i64_w, i32_w]
                      rfl
                    refine pure_ (i := 8) (N := some 110) (v := ?_) (a' := ?_) #[true, true, true, true, true, true, true, true, true, false, false, false, false, false] rfl rfl (by kernel_rfl) (fun _ _ _ h => h) (Or.inl ⟨by rfl, ?_⟩) ?_ ?_
                    rotate_left
                    · intro w'
                      go_simp
                      with_reducible rfl
                    rotate_left
                    · simp only [Act.put, List.setIfInBounds_toArray, List.set_cons_zero, List.set_cons_succ, i64_w, i32_w]
                      rfl
                    refine take_ (i := 9) (N := some 111) (v := ?_) (a' := ?_) #[true, true, true, true, true, true, true, true, true, true, false, false, false, false] rfl rfl (by kernel_rfl) (fun _ _ _ h => h) (Or.inl ⟨by rfl, ?_⟩) hHeld ?_ ?_
                    rotate_left
                    · intro w' hS
                      have c_ := pw_cell_below hS HXC.out.2.2.2.2
                      go_simp
                      with_reducible rfl
                    rotate_left
                    · simp only [Act.put, List.setIfInBounds_toArray, List.set_cons_zero, List.set_cons_succ, i64_w, i32_w]
                      rfl
                    refine one_ (i := 10) (N := some 112) #[true, true, true, true, true, true, true, true, true, true, true, false, false, false] rfl rfl (by kernel_rfl) (by simp) (fun K hK => ?_)
                    refine value_ (w1 := wq.drew.alloc (.cells #[.bool x.f6] 4)) (v := .slice (some ⟨wq.drew.heap.size, 0, none⟩) 1 1) (by rfl) rfl (by first | (go_simp; done) | (go_simp; rfl)) ?_
                    have hb_ := below_alloc (Below.refl wq.drew.heap.size wq.drew) (.cells #[.bool x.f6] 4)
                    replace hb_ := below_step hHeld hb_
                    refine hK.out _ _ hb_ (fun _ => ?_)
                    clear hK K
                    refine norm_ (a' := ?_) ?_ ?_
                    rotate_left
                    · show Act.put _ (some 112) _ = _
                      simp only [Act.put, List.setIfInBounds_toArray, List.set_cons_zero, List.set_cons_succ, i64_w, i32_w]
                      rfl
                    have HNW := Aside0.mk (heap_alloc_new wq.drew (.cells #[.bool x.f6] 4))
                    replace hHeld := hb_
                    generalize wq.drew.alloc (.cells #[.bool x.f6] 4) = we at HNW hHeld hb_ ⊢
                    obtain ⟨gl, HGL⟩ : ∃ g, Aside0 (wq.drew.heap.size = g) := ⟨_, ⟨rfl⟩⟩
                    rw [HGL.out] at HNW ⊢
                    clear hb_
                    refine last_ (i := 11) (N := some 113) #[true, true, true, true, true, true, true, true, true, true, true, true, false, false] rfl rfl (by kernel_rfl) (by simp) (fun K hK => ?_)
                    obtain ⟨v_, wf, hr_, ho_, hg_, _, A7, c7, rfl⟩ := app_one TIB 34 rfl we wi.heap.size md (.slice Ad md cd) (cellsB dj) (own_below HOD.out hHeld) gl 1 [.bool x.f6] HNW.out rfl (by simp [Value.oneCell']) (by omega) (by decide) (Nat.le_trans HBJ.out.size hHeld.size)
                    have HR7 := Aside0.mk ho_
                    have HG7 := Aside0.mk (blk_grown (blk_below HGV.out hHeld) hg_ (fun e => by obtain ⟨cur, hc⟩ := own_block (own_below HOD.out hHeld) e; exact blk_types (blk_below HGV.out hHeld) hc (by decide) rfl))
                    have HB7 := Aside0.mk ((below_on HBJ.out HBJ.out.size hHeld).grown hg_ (Nat.le_trans HBJ.out.size hHeld.size) fun k hk => (Ow.own_lt (own_below HOD.out hHeld) k hk).1)
                    have HO7 := Aside0.mk (own_kept (own_below HOR.out hHeld) fun k e => hg_.block k (Ow.own_lt (own_below HOR.out hHeld) k e.symm).2 fun e2 => by obtain ⟨cur, hc⟩ := own_block (own_below HOR.out hHeld) e; obtain ⟨cur2, hc2⟩ := own_block (own_below HOD.out hHeld) e2; exact blk_types hc hc2 (by decide) rfl)
                    refine value_ (w1 := wf) (v := .slice A7 (md + 1) c7) (by rfl) rfl (append_exec (.tmp 103) (.tmp 112) 34 rfl rfl rfl hr_) ?_
                    clear hr_ ho_ hg_ hHeld
                    refine hK.out _ _ ?_
                    clear hK K
                    refine norm_ (a' := ?_) ?_ ?_
                    rotate_left
                    · show Act.put _ (some 113) _ = _
                      simp only [Act.put, List.setIfInBounds_toArray, List.set_cons_zero, List.set_cons_succ, i64_w, i32_w]
                      rfl
                    refine pure_ (i := 12) (N := some 114) (v := ?_) (a' := ?_) #[true, true, true, true, true, true, true, true, true, true, true, true, true, false] rfl rfl (by kernel_rfl) (fun _ _ _ h => h) (Or.inl ⟨by rfl, ?_⟩) ?_ ?_
                    rotate_left
                    · intro w'
                      go_simp
                      with_reducible rfl
                    rotate_left
                    · simp only [Act.put, List.setIfInBounds_toArray, List.set_cons_zero, List.set_cons_succ, i64_w, i32_w]
                      rfl
                    refine last_ (i := 13) (N := none) #[true, true, true, true, true, true, true, true, true, true, true, true, true, true] rfl rfl (by kernel_rfl) (by simp) (fun K hK => ?_)
                    have z_ := (blk_cell HG7.out 2).trans (rfl : _ = some (.slice Ad md cd : Value))
                    have f_ := blk_frozen HG7.out 2
                    refine skip_ (w1 := wf.setCell ⟨gv, 2, none⟩ (.slice A7 (md + 1) c7)) (by rfl) rfl (by first | (go_simp; done) | (go_simp; rfl)) ?_
                    clear z_ f_
                    refine hK.out _ _ ?_
                    clear hK K
                    refine done_ (by kernel_rfl) ?_

                    have HG8 := Aside0.mk (blk_put HG7.out 2 (.slice A7 (md + 1) c7) (rfl : _ = (#[.int .i64 k, .slice A6r (mr + 1) c6r, .slice A7 (md + 1) c7] : Array Value)))
                    have HB8 := Aside0.mk (HB7.out.setCell (p := ⟨gv, 2, none⟩) HGVB.out (.slice A7 (md + 1) c7))
                    have HD8 := Aside0.mk (own_kept (w' := wf.setCell ⟨gv, 2, none⟩ (.slice A7 (md + 1) c7)) HR7.out fun k e => by obtain ⟨cur, hc⟩ := own_block HR7.out e; exact Below.heap_setCell _ _ _ k (blk_types hc HG7.out (by decide)))
                    have HR8 := Aside0.mk (own_kept (w' := wf.setCell ⟨gv, 2, none⟩ (.slice A7 (md + 1) c7)) HO7.out fun k e => by obtain ⟨cur, hc⟩ := own_block HO7.out e; exact Below.heap_setCell _ _ _ k (blk_types hc HG7.out (by decide)))
                    generalize wf.setCell ⟨gv, 2, none⟩ (.slice A7 (md + 1) c7) = wz at HG8 HB8 HR8 HD8 ⊢
                    go_wp2_with fail
                    go_roundw
                    case rel => exact ⟨j + 1, mr + 1, md + 1, _, _, _, _, rj ++ [x.f5], dj ++ [x.f6], by omega, by go_num, by omega, by omega, HFN, ⟨by rw [List.length_append, List.length_append, HLJ.out.1, HLJ.out.2]; exact ⟨rfl, rfl⟩⟩, HB8, HG8, ⟨by rw [cellsR_append]; exact HR8.out⟩, ⟨by rw [cellsB_append]; exact HD8.out⟩⟩
                    case measure => simp [intOf]; omega
                  · have e_ : (x.f4 == k) = false := by simpa using hxk
                    have HFN : Aside0 ((((ps.take (j + 1)).filter fun x => k == x.f4).map (·.f5)) = rj ∧ (((ps.take (j + 1)).filter fun x => k == x.f4).map (·.f6)) = dj) := ⟨by
                      rw [HTJ.out, List.filter_append, List.map_append, List.map_append, HFJ.out.1, HFJ.out.2, List.filter_cons_of_neg (by simpa using fun e : k = x.f4 => hxk e.symm), List.filter_nil, List.map_nil, List.map_nil, List.append_nil, List.append_nil]
                      exact ⟨rfl, rfl⟩⟩
                    clear hxk
                    go_upto_region 21 with fail
                    go_quiet (fail)
                    generalize HWQ : wj.drewN _ = wq
                    have hbq : Below wj.heap.size wj wq := by rw [← HWQ]; exact pw_below_drewN (Below.refl _ _) _
                    clear HWQ p_ x4_ k_
                    replace HGV := Aside0.mk (blk_below HGV.out hbq)
                    replace HOR := Aside0.mk (own_below HOR.out hbq)
                    replace HOD := Aside0.mk (own_below HOD.out hbq)
                    replace HBJ := Aside0.mk (below_on HBJ.out HBJ.out.size hbq)
                    clear hbq
                    go_wp2_with fail
                    go_roundw
                    case rel => exact ⟨j + 1, mr, md, _, _, _, _, rj, dj, by omega, by go_num, by omega, by omega, HFN, HLJ, HBJ, HGV, HOR, HOD⟩
                    case measure => simp [intOf]; omega
                · obtain rfl : np = j := by omega
                  have j1b_ : decide (np < np) = false := by simp
                  have HLV : Aside0 (logOf k ps = ⟨k, rj, dj⟩) := ⟨by
                    have h := HFJ.out
                    rw [List.take_of_length_le (by rw [HPSL.out]; exact Nat.le_refl _)] at h
                    unfold logOf
                    rw [h.1, h.2]⟩
                  have hal_ := below_alloc (Below.refl wj.heap.size wj) (.cells #[.int .i64 k, .slice Ar mr cr, .slice Ad md cd] 36)
                  obtain ⟨v_, w7, hr_, hblk_, hrd_, hkn_, _, A6, c6, rfl⟩ := (HRD.out.below HBJ.out).app0 hal_ (logOf k ps) [.int .i64 k, .slice Ar mr cr, .slice Ad md cd] (heap_alloc_new wj _) rfl (by simp [Value.oneCell']) (fun W2 hk hB2 => by
                    obtain ⟨B1, e1, hv1, q1, g1⟩ := recC ((KeepN.trans (KeepN.below (T := 0) hal_) hk).own (by decide) HOR.out) HLJ.out.1
                    obtain ⟨B2, e2, hv2, q2, g2⟩ := boolC ((KeepN.trans (KeepN.below (T := 0) hal_) hk).own (by decide) HOD.out) HLJ.out.2
                    obtain ⟨rfl, rfl⟩ : Ar = B1 ∧ cr = e1 := by injection hv1 with a _ b; exact ⟨a, b⟩
                    obtain ⟨rfl, rfl⟩ : Ad = B2 ∧ cd = e2 := by injection hv2 with a _ b; exact ⟨a, b⟩
                    obtain ⟨hm1⟩ := HLJ
                    obtain ⟨rfl, rfl⟩ := hm1
                    rw [HLV.out]
                    exact k36_mk W2 (⟨k, rj, dj⟩ : S36) q1 g1 q2 g2) (by rw [HTL.out]; omega) 26 rfl
                  rw [HTL.out] at hr_ hrd_ hkn_
                  have HRR := Aside0.mk hr_
                  have HRD2 : Aside0 (RdI w (w7.setCell ⟨gO, 0, none⟩ (.slice A6 (i + 1) c6)) w3.heap.size gR gO (n : Int) (.slice A6 (i + 1) c6) v1 ((lg.take (i + 1)).map fun k => logOf k ps) ts) := ⟨by rw [HTK.out, List.map_append]; exact hrd_⟩
                  have HKN2 : Aside0 (KeepN 0 w6 (w7.setCell ⟨gO, 0, none⟩ (.slice A6 (i + 1) c6))) := ⟨HKN.out.trans ((KeepN.below (T := 0) HBJ.out).trans ((KeepN.below (T := 0) hal_).trans hkn_))⟩
                  have o0_ := (blk_cell (HRD.out.below HBJ.out).blk 0).trans (rfl : _ = some (v0 : Value))
                  have z0_ := (blk_cell hblk_ 0).trans (rfl : _ = some (v0 : Value))
                  have f0_ := blk_frozen hblk_ 0
                  have y0_ := (blk_cell HGV.out 0).trans (rfl : _ = some (.int .i64 k : Value))
                  have y1_ := (blk_cell HGV.out 1).trans (rfl : _ = some (.slice Ar mr cr : Value))
                  have y2_ := (blk_cell HGV.out 2).trans (rfl : _ = some (.slice Ad md cd : Value))
                  clear hal_ hr_ hrd_ hkn_ hblk_
                  go_wp2_with (at_builtin; refine wpList_append_eq _ rfl (.tmp 116) (.tmp 118) 26 26 rfl _ _ rfl rfl HRR.out ?_)
                  go_roundw
                  case rel => exact ⟨i + 1, _, _, by omega, by go_num, HRD2, HKN2⟩
                  case measure => simp [intOf]; omega
            · obtain rfl : nl = i := by omega
              have h1b2 : decide (nl < nl) = false := by simp
              rw [List.take_of_length_le (by rw [HNLL.out]; exact Nat.le_refl _), HLE.out] at HRD
              obtain ⟨E1, e1, rfl, hl1, _⟩ := HRD.out.r0.C HRD.out.bel
              obtain ⟨E2, e2, rfl, hl2, _⟩ := HRD.out.r1.C HRD.out.bel
              obtain ⟨LL, HLL⟩ : ∃ LL, Aside0 ((readV l).f0 = LL) := ⟨_, ⟨rfl⟩⟩
              rw [HLL.out] at HRD hl1
              obtain ⟨t1, HT1⟩ : ∃ t, Aside0 (LL.length = t) := ⟨_, ⟨rfl⟩⟩
              obtain ⟨t2, HT2⟩ : ∃ t, Aside0 (ts.length = t) := ⟨_, ⟨rfl⟩⟩
              rw [HT1.out] at hl1
              rw [HT2.out] at hl2
              have hblk := HRD.out.blk
              have hres := HRD.out.res
              rw [HT1.out, HT2.out] at hblk
              have o0_ := (blk_cell hblk 0).trans (rfl : _ = some (.slice E1 t1 e1 : Value))
              have o1_ := (blk_cell hblk 1).trans (rfl : _ = some (.slice E2 t2 e2 : Value))
              have o2_ := (blk_cell hblk 2).trans (rfl : _ = some (.int .i64 (n : Int) : Value))
              have z0_ := (blk_cell hres 0).trans (rfl : _ = some (.slice none 0 0 : Value))
              have f0_ := blk_frozen hres 0
              have z1_ := (blk_cell hres 1).trans (rfl : _ = some (.slice none 0 0 : Value))
              have f1_ := blk_frozen hres 1
              have z2_ := (blk_cell hres 2).trans (rfl : _ = some (.int .i64 0 : Value))
              have f2_ := blk_frozen hres 2
              have HRES := Aside0.mk hres
              clear hres hblk
              go_wp2_with fail
              have hres := HRES.out
              have hp0 := blk_put hres 0 (.slice E1 t1 e1) (rfl : _ = (#[.slice E1 t1 e1, .slice none 0 0, .int .i64 0] : Array Value))
              have hr00 := RT.setO HRD.out.r0 hres (by decide) 0 (.slice E1 t1 e1)
              have hr10 := RT.setO HRD.out.r1 hres (by decide) 0 (.slice E1 t1 e1)
              have hbl0 := (HRD.out.bel).setCell (p := ⟨gR, 0, none⟩) HRD.out.hR (.slice E1 t1 e1)
              have hp1 := blk_put hp0 1 (.slice E2 t2 e2) (rfl : _ = (#[.slice E1 t1 e1, .slice E2 t2 e2, .int .i64 0] : Array Value))
              have hr01 := RT.setO hr00 hp0 (by decide) 1 (.slice E2 t2 e2)
              have hr11 := RT.setO hr10 hp0 (by decide) 1 (.slice E2 t2 e2)
              have hbl1 := (hbl0).setCell (p := ⟨gR, 1, none⟩) HRD.out.hR (.slice E2 t2 e2)
              have hp2 := blk_put hp1 2 (.int .i64 (n : Int)) (rfl : _ = (#[.slice E1 t1 e1, .slice E2 t2 e2, .int .i64 (n : Int)] : Array Value))
              have hr02 := RT.setO hr01 hp1 (by decide) 2 (.int .i64 (n : Int))
              have hr12 := RT.setO hr11 hp1 (by decide) 2 (.int .i64 (n : Int))
              have hbl2 := (hbl1).setCell (p := ⟨gR, 2, none⟩) HRD.out.hR (.int .i64 (n : Int))
              obtain ⟨F1, u1, ev1, q1, g1⟩ := hr02.C hbl2
              obtain ⟨F2, u2, ev2, q2, g2⟩ := hr12.C hbl2
              refine bodyPost_ret (results_cell_row rfl _ _ gR 29 #[.slice E1 t1 e1, .slice E2 t2 e2, .int .i64 (n : Int)] (0, 0) _ rfl hp2 Try.underlying29 rfl (by kernel_rfl)) rfl ?_
              rw [HT1.out] at ev1 q1 g1
              rw [HT2.out] at ev2 q2 g2
              obtain ⟨rfl, rfl⟩ : E1 = F1 ∧ e1 = u1 := by injection ev1 with a _ b; exact ⟨a, b⟩
              obtain ⟨rfl, rfl⟩ : E2 = F2 ∧ e2 = u2 := by injection ev2 with a _ b; exact ⟨a, b⟩
              unfold ReadP
              rw [HLL.out, HTT.out, HT1.out, HT2.out, HLn.out]
              exact ⟨E1, e1, E2, e2, rfl, hbl2, q1, g1, q2, g2⟩
end Go.Proofs.Ytmnglonjekegcaa.Vw
