/- (c14) A store's New, Len, List, Find. -/
import Derived.Test.YtpjfmilokadchaaSeDel
namespace Go.Proofs.Ytpjfmilokadchaa.Se
open Go Go.RowKit Go.Proofs.YtpjfmilokadchaaW.PrintWords Go.Proofs.YtpjfmilokadchaaW.PrintLast Go.Proofs.YtpjfmilokadchaaW.PrintMore Go.Proofs.Ytpjfmilokadchaa.Rw Go.Proofs.Ytpjfmilokadchaa.Ex
set_option linter.unusedVariables false
set_option linter.unusedSimpArgs false
attribute [local go_sem] run_store_span
theorem cells_of {w : World} {base b : Nat} {room gap : Int} {v : Value} {L : List Ses} (h : SeS w base b room gap v L) : w.cell? ⟨b, 0, none⟩ = some (.int .i64 room) ∧ w.cell? ⟨b, 1, none⟩ = some (.int .i64 gap) ∧ w.cell? ⟨b, 2, none⟩ = some v := by
  refine ⟨?_, ?_, ?_⟩ <;> simp [World.cell?, h.cell]
theorem new_ok (room gap : Int) (w : World) (h1 : 1 ≤ room) (h2 : room ≤ 1024) (h3 : 1 ≤ gap) (h4 : gap ≤ 1048576) : Calls Try.prog 9 #[.int .i64 room, .int .i64 gap] w fun e w' => ∃ b, e = .returned (.tuple #[.pointer (some ⟨b, 0, none⟩), .int .i64 0]) ∧ SeS w' w.heap.size b room gap (.slice none 0 0) [] ∧ Below w.heap.size w w' ∧ w.heap.size ≤ b := by
  have HP : Aside0 (∃ b, Ending.returned (.tuple #[.pointer (some ⟨w.heap.size, 0, none⟩), .int .i64 0]) = .returned (.tuple #[.pointer (some ⟨b, 0, none⟩), .int .i64 0]) ∧ SeS (w.alloc (.cells #[.int .i64 room, .int .i64 gap, .slice none 0 0] 49)) w.heap.size b room gap (.slice none 0 0) [] ∧ Below w.heap.size w (w.alloc (.cells #[.int .i64 room, .int .i64 gap, .slice none 0 0] 49)) ∧ w.heap.size ≤ b) :=
    ⟨⟨_, rfl, ⟨Nat.le_refl _, heap_alloc_new w _, World.ownsRow_nil _ _ _ _, List.Pairwise.nil, (fun p hp => by cases hp), (fun p hp => by cases hp), by simp, h2, ⟨h3, h4⟩⟩, below_alloc (Below.refl _ _) _, Nat.le_refl _⟩⟩
  have d1 : decide (room < 1) = false := by simp; omega
  have d2 : decide (1024 < room) = false := by simp; omega
  have d3 : decide (gap < 1) = false := by simp; omega
  have d4 : decide (1048576 < gap) = false := by simp; omega
  clear h1 h2 h3 h4
  go_enter Try.func9, Try.ntmps9
  go_wp2
  go_ret2
  exact HP.out
theorem len_ok (base b : Nat) (room gap : Int) (v : Value) (L : List Ses) (w : World) (h : SeS w base b room gap v L) :
    Calls Try.prog 11 #[.pointer (some ⟨b, 0, none⟩)] w fun e w' => e = .returned (.int .i64 (L.length : Nat)) ∧ w = w' := by
  obtain ⟨A, c, hv, hnc, hcm⟩ := slice_of h.row
  obtain ⟨_, _, x3⟩ := cells_of h
  rw [hv] at x3
  obtain ⟨n, HN⟩ : ∃ n, Aside0 (L.length = n) := ⟨_, ⟨rfl⟩⟩
  rw [HN.out] at x3 ⊢
  clear h hv hnc hcm
  go_enter Try.func11, Try.ntmps11
  go_wp2
  go_ret
  exact ⟨rfl, rfl⟩
theorem take_chg {L : List Ses} {i : Nat} {p : Ses} (h : L[i]? = some p) : (L.take (i + 1)).map chgOf = (L.take i).map chgOf ++ [chgOf p] := by
  obtain ⟨a, rfl⟩ := List.getElem?_eq_some_iff.1 h
  rw [List.take_succ_eq_append_getElem a, List.map_append]
  rfl
set_option maxHeartbeats 2000000 in
theorem list_ok (base b : Nat) (room gap : Int) (v : Value) (L : List Ses) (w : World) (h : SeS w base b room gap v L) :
    Calls Try.prog 13 #[.pointer (some ⟨b, 0, none⟩)] w (RowOut w (L.map chgOf)) := by
  have HK := Aside0.mk h
  have HB := Aside0.mk (Below.refl w.heap.size w)
  have HSP := Aside0.mk h.span
  obtain ⟨A, c, hv, hnc, hcm⟩ := slice_of h.row
  obtain ⟨_, _, x3⟩ := cells_of h
  obtain ⟨n, HN⟩ : ∃ n, Aside0 (L.length = n) := ⟨_, ⟨rfl⟩⟩
  have hn : n ≤ 1024 := by rw [← HN.out]; exact h.len
  rw [HN.out] at hv hnc
  subst hv
  clear h hcm
  go_enter Try.func13, Try.ntmps13
  go_wp2_with fail
  clear x3
  go_loopw [3, 13] (fun v3 v13 wr => ∃ i : Nat, i ≤ n ∧ v13 = .int .i64 (i : Int) ∧ Aside0 (wr.ownsRow w.heap.size 33 5 v3 i (cellsC ((L.take i).map chgOf))) ∧ Aside0 (Below w.heap.size w wr)) (fun _ v13 _ => n - (intOf v13).toNat)
  case atStart => exact ⟨0, by omega, rfl, ⟨World.ownsRow_nil _ _ _ _⟩, HB⟩
  case round =>
    clear HB
    obtain ⟨i, hi, rfl, HO, HB⟩ := hrel
    by_cases hlt : i < n
    · have h1 : decide ((i : Int) < (n : Int)) = true := by simp; omega
      have h1b : decide (i < n) = true := by simp; omega
      obtain ⟨p, hp⟩ : ∃ p, L[i]? = some p := ⟨_, List.getElem?_eq_getElem (by rw [HN.out]; omega)⟩
      obtain ⟨g, hA, hc⟩ := own_cells (A := A) (c := c) HK.out.row (by rw [HN.out]) hp
      obtain ⟨x1, x2, x3⟩ := hc wr HB.out
      have HT := Aside0.mk (take_chg hp)
      have HPS := Aside0.mk (HSP.out p (List.mem_of_getElem? hp))
      obtain ⟨ps, HPZ⟩ : ∃ ps, Aside0 ((L.take i).map chgOf = ps) := ⟨_, ⟨rfl⟩⟩
      rw [HPZ.out] at HT HO
      subst hA
      clear hp hc
      go_upto_region 6 with fail
      clear x1 x2 x3
      have BP := Aside0.mk (heap_alloc_new wr (.cells #[.int .i64 p.k, spanV p.a p.b, .int .i64 p.v] 53))
      have hb_ := below_alloc (Below.refl wr.heap.size wr) (.cells #[.int .i64 p.k, spanV p.a p.b, .int .i64 p.v] 53)
      have hs_ : (wr.alloc (.cells #[.int .i64 p.k, spanV p.a p.b, .int .i64 p.v] 53)).heap.size = wr.heap.size + 1 := by simp
      generalize wr.alloc (.cells #[.int .i64 p.k, spanV p.a p.b, .int .i64 p.v] 53) = wr2 at BP hb_ hs_ ⊢
      replace HB := Aside0.mk (below_step HB.out hb_)
      replace HO := Aside0.mk (own_below HO.out hb_)
      clear hb_

      clear hs_
      have z0_ := (blk_cell BP.out 0).trans (rfl : _ = some (.int .i64 p.k : Value))
      have z1_ := (blk_cell BP.out 1).trans (rfl : _ = some (spanV p.a p.b : Value))
      have z2_ := (blk_cell BP.out 2).trans (rfl : _ = some (.int .i64 p.v : Value))

      go_wp2_with fail
      refine (change_ok p HPS.out _).mono ?_
      rintro e w3 ⟨rfl, hb_⟩
      unfold chgV
      replace HO := Aside0.mk (own_below HO.out hb_)
      replace HB := Aside0.mk (below_step HB.out hb_)
      have HBS : Aside0 (w.heap.size ≤ w3.heap.size) := ⟨HB.out.size⟩
      have HOL := Aside0.mk (own_lt' HO.out)
      clear hb_ z0_ z1_ z2_ BP
      go_wp2_with (at_builtin; refine wpList_appC _ rfl _ _ rfl w.heap.size i u3 ps (chgOf p) rfl HO.out rfl (by omega) ?_ ?_; exact HBS.out; intro v31 w31 ho_ hg_ hh_ hs_; obtain ⟨A31, c31, rfl⟩ := hs_)
      go_roundw
      case rel => exact ⟨i + 1, by omega, by go_num, ⟨by rw [HT.out]; exact ho_⟩, ⟨HB.out.grown hg_ HBS.out (fun k hk => (HOL.out k hk).1)⟩⟩
      case measure => simp [intOf]; omega
    · obtain rfl : n = i := by omega
      have HO2 : Aside0 (RowOut w (L.map chgOf) (.returned u3) wr) := ⟨⟨u3, rfl, by have := HO.out; rw [← HN.out, List.take_length] at this; rw [List.length_map]; exact this, HB.out⟩⟩
      go_wp2
      go_ret
      exact HO2.out
theorem find_snoc {g : Int} {L : List Ses} {key t : Int} {i : Nat} {p : Ses} (h : L[i]? = some p) : findL g (L.take (i + 1)) key t = findL g (L.take i) key t ++ (if touchB g key t p = true then [p] else []) := by
  obtain ⟨a, rfl⟩ := List.getElem?_eq_some_iff.1 h
  unfold findL
  rw [List.take_succ_eq_append_getElem a, List.filter_append]
  cases hd : touchB g key t L[i] <;> simp [List.filter_cons, hd]
theorem stay_snoc {g : Int} {L : List Ses} {key t : Int} {i : Nat} {p : Ses} (h : L[i]? = some p) : stayL g (L.take (i + 1)) key t = stayL g (L.take i) key t ++ (if touchB g key t p = true then [] else [p]) := by
  obtain ⟨a, rfl⟩ := List.getElem?_eq_some_iff.1 h
  unfold stayL
  rw [List.take_succ_eq_append_getElem a, List.filter_append]
  cases hd : touchB g key t L[i] <;> simp [List.filter_cons, hd]
theorem find_len (g : Int) (L : List Ses) (key t : Int) : (findL g L key t).length ≤ L.length := List.length_filter_le _ _
theorem stay_len (g : Int) (L : List Ses) (key t : Int) : (stayL g L key t).length ≤ L.length := List.length_filter_le _ _
theorem take_le (L : List Ses) (i : Nat) : (L.take i).length ≤ i := List.length_take_le _ _
def findM (g : Int) (L : List Ses) (key t : Int) : List Ses := if mayT t = true then findL g L key t else []
theorem find_no (base b : Nat) (room gap : Int) (v : Value) (L : List Ses) (key t : Int) (w : World) (h : SeS w base b room gap v L) (hm : mayT t = false) :
    Calls Try.prog 12 #[.pointer (some ⟨b, 0, none⟩), .int .i64 key, .int .i64 t] w (RowOut w []) := by
  have HP : Aside0 (RowOut w [] (.returned (.slice none 0 0)) w) := ⟨⟨_, rfl, World.ownsRow_nil _ _ _ _, Below.refl _ _⟩⟩
  clear h
  go_enter Try.func12, Try.ntmps12
  go_wp2_with fail
  refine (may_ok t w).mono ?_
  rintro e w1 ⟨rfl, rfl⟩
  rw [hm]
  go_wp2_with fail
  go_ret
  exact HP.out
set_option maxHeartbeats 2000000 in
theorem find_yes (base b : Nat) (room gap : Int) (v : Value) (L : List Ses) (key t : Int) (w : World) (h : SeS w base b room gap v L) (hm : mayT t = true) :
    Calls Try.prog 12 #[.pointer (some ⟨b, 0, none⟩), .int .i64 key, .int .i64 t] w (RowOut w ((findL gap L key t).map chgOf)) := by
  have HK := Aside0.mk h
  have HB := Aside0.mk (Below.refl w.heap.size w)
  have HSP := Aside0.mk h.span
  have HGP := Aside0.mk h.gaps
  have HMT := Aside0.mk hm
  obtain ⟨A, c, hv, hnc, hcm⟩ := slice_of h.row
  obtain ⟨_, _, x3⟩ := cells_of h
  obtain ⟨n, HN⟩ : ∃ n, Aside0 (L.length = n) := ⟨_, ⟨rfl⟩⟩
  have hn : n ≤ 1024 := by rw [← HN.out]; exact h.len
  rw [HN.out] at hv hnc
  subst hv
  clear h hcm hm
  go_enter Try.func12, Try.ntmps12
  go_wp2_with fail
  refine (may_ok t w).mono ?_
  rintro e w1 ⟨rfl, rfl⟩
  rw [HMT.out]
  go_wp2_with fail
  clear x3
  go_loopw [7, 22] (fun v7 v22 wr => ∃ (i m : Nat), i ≤ n ∧ m ≤ i ∧ v22 = .int .i64 (i : Int) ∧ Aside0 ((findL gap (L.take i) key t).length = m) ∧ Aside0 (wr.ownsRow w.heap.size 33 5 v7 m (cellsC ((findL gap (L.take i) key t).map chgOf))) ∧ Aside0 (Below w.heap.size w wr)) (fun _ v22 _ => n - (intOf v22).toNat)
  case atStart => exact ⟨0, 0, by omega, by omega, rfl, ⟨rfl⟩, ⟨World.ownsRow_nil _ _ _ _⟩, HB⟩
  case round =>
    clear HB
    obtain ⟨i, m, hi, hmi, rfl, HLN, HO, HB⟩ := hrel
    by_cases hlt : i < n
    · have h1 : decide ((i : Int) < (n : Int)) = true := by simp; omega
      have h1b : decide (i < n) = true := by simp; omega
      obtain ⟨p, hp⟩ : ∃ p, L[i]? = some p := ⟨_, List.getElem?_eq_getElem (by rw [HN.out]; omega)⟩
      obtain ⟨g, hA, hc⟩ := own_cells (A := A) (c := c) HK.out.row (by rw [HN.out]) hp
      obtain ⟨x1, x2, x3⟩ := hc wr HB.out
      have HT := Aside0.mk (find_snoc (g := gap) (key := key) (t := t) hp)
      have HPS := Aside0.mk (HSP.out p (List.mem_of_getElem? hp))
      obtain ⟨ps, HPZ⟩ : ∃ ps, Aside0 (findL gap (L.take i) key t = ps) := ⟨_, ⟨rfl⟩⟩
      rw [HPZ.out] at HT HO HLN
      subst hA
      clear hp hc
      go_upto_region 7 with fail
      clear x1 x2 x3
      have BP := Aside0.mk (heap_alloc_new wr (.cells #[.int .i64 p.k, spanV p.a p.b, .int .i64 p.v] 53))
      have hb_ := below_alloc (Below.refl wr.heap.size wr) (.cells #[.int .i64 p.k, spanV p.a p.b, .int .i64 p.v] 53)
      have hs_ : (wr.alloc (.cells #[.int .i64 p.k, spanV p.a p.b, .int .i64 p.v] 53)).heap.size = wr.heap.size + 1 := by simp
      generalize wr.alloc (.cells #[.int .i64 p.k, spanV p.a p.b, .int .i64 p.v] 53) = wr2 at BP hb_ hs_ ⊢
      replace HB := Aside0.mk (below_step HB.out hb_)
      replace HO := Aside0.mk (own_below HO.out hb_)
      clear hb_

      clear hs_
      have z0_ := (blk_cell BP.out 0).trans (rfl : _ = some (.int .i64 p.k : Value))
      have z1_ := (blk_cell BP.out 1).trans (rfl : _ = some (spanV p.a p.b : Value))
      have z2_ := (blk_cell BP.out 2).trans (rfl : _ = some (.int .i64 p.v : Value))

      have HST := Aside0.mk ((HK.out.below HB.out).cell)
      go_wp2_with fail
      refine (touches_any b room gap (.slice (some ⟨g, 0, none⟩) n c) p key t _ HPS.out HGP.out HST.out).mono ?_
      rintro e w3 ⟨rfl, hb_⟩
      replace HO := Aside0.mk (own_below HO.out hb_)
      replace HB := Aside0.mk (below_step HB.out hb_)
      replace BP := Aside0.mk (blk_below BP.out hb_)
      clear hb_ z0_ z1_ z2_ HST
      obtain ⟨q, HQ⟩ : ∃ q, Aside0 (touchB gap key t p = q) := ⟨_, ⟨rfl⟩⟩
      rw [HQ.out] at HT ⊢
      cases q with
      | false =>
        have HT2 : Aside0 (findL gap (L.take (i + 1)) key t = ps) := ⟨by rw [HT.out]; simp⟩
        clear HT BP
        go_wp2_with fail
        go_roundw
        case rel => exact ⟨i + 1, m, by omega, by omega, by go_num, ⟨by rw [HT2.out]; exact HLN.out⟩, ⟨by rw [HT2.out]; exact HO.out⟩, HB⟩
        case measure => simp [intOf]; omega
      | true =>
        have HT2 : Aside0 (findL gap (L.take (i + 1)) key t = ps ++ [p]) := ⟨by rw [HT.out]; simp⟩
        clear HT
        obtain ⟨pm, HPM⟩ : ∃ pm, Aside0 (ps.map chgOf = pm) := ⟨_, ⟨rfl⟩⟩
        rw [HPM.out] at HO
        have z0_ := (blk_cell BP.out 0).trans (rfl : _ = some (.int .i64 p.k : Value))
        have z1_ := (blk_cell BP.out 1).trans (rfl : _ = some (spanV p.a p.b : Value))
        have z2_ := (blk_cell BP.out 2).trans (rfl : _ = some (.int .i64 p.v : Value))

        go_wp2_with fail
        refine (change_ok p HPS.out _).mono ?_
        rintro e w4 ⟨rfl, hb_⟩
        unfold chgV
        replace HO := Aside0.mk (own_below HO.out hb_)
        replace HB := Aside0.mk (below_step HB.out hb_)
        have HBS : Aside0 (w.heap.size ≤ w4.heap.size) := ⟨HB.out.size⟩
        have HOL := Aside0.mk (own_lt' HO.out)
        clear hb_ z0_ z1_ z2_ BP
        go_wp2_with (at_builtin; refine wpList_appC _ rfl _ _ rfl w.heap.size m u7 pm (chgOf p) rfl HO.out rfl (by omega) ?_ ?_; exact HBS.out; intro v31 w31 ho_ hg_ hh_ hs_; obtain ⟨A31, c31, rfl⟩ := hs_)
        go_roundw
        case rel => exact ⟨i + 1, m + 1, by omega, by omega, by go_num, ⟨by rw [HT2.out, List.length_append, HLN.out]; rfl⟩, ⟨by rw [HT2.out, List.map_append, HPM.out]; exact ho_⟩, ⟨HB.out.grown hg_ HBS.out (fun k hk => (HOL.out k hk).1)⟩⟩
        case measure => simp [intOf]; omega
    · obtain rfl : n = i := by omega
      have HO2 : Aside0 (RowOut w ((findL gap L key t).map chgOf) (.returned u7) wr) := ⟨⟨u7, rfl, by have := HO.out; have h2 := HLN.out; rw [← HN.out, List.take_length] at this h2; rw [List.length_map, h2]; exact this, HB.out⟩⟩
      go_wp2
      go_ret
      exact HO2.out
theorem find_ok (base b : Nat) (room gap : Int) (v : Value) (L : List Ses) (key t : Int) (w : World) (h : SeS w base b room gap v L) :
    Calls Try.prog 12 #[.pointer (some ⟨b, 0, none⟩), .int .i64 key, .int .i64 t] w (RowOut w ((findM gap L key t).map chgOf)) := by
  unfold findM
  cases hm : mayT t with
  | false => rw [if_neg (by simp)]; exact find_no base b room gap v L key t w h hm
  | true => rw [if_pos rfl]; exact find_yes base b room gap v L key t w h hm
end Go.Proofs.Ytpjfmilokadchaa.Se
