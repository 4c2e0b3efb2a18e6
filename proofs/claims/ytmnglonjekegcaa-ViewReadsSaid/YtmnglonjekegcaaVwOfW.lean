/- (c11) tidemillref11.Of. -/
import Derived.Test.YtmnglonjekegcaaVwOfI
import Derived.Test.YtmnglonjekegcaaRfMay
import Derived.Test.YtmnglonjekegcaaSto
namespace Go.Proofs.Ytmnglonjekegcaa.Vw
open Go Go.RowKit Go.Maps Go.Proofs.Ytmnglonjekegcaa.Mk Go.Proofs.Ytmnglonjekegcaa.Rp Go.Proofs.YtmnglonjekegcaaW.PrintWords Go.Proofs.YtmnglonjekegcaaW.PrintLast Go.Proofs.YtmnglonjekegcaaW.PrintMore Go.Proofs.Ytmnglonjekegcaa.Rw Go.Proofs.Ytmnglonjekegcaa.Ow Go.Proofs.Ytmnglonjekegcaa.Mono
set_option linter.unusedVariables false
set_option linter.unusedSimpArgs false
set_option maxRecDepth 100000
theorem ints_lit (w : World) : (w.alloc (.cells #[] 3)).ownsRow w.heap.size 3 1 (.slice (some ⟨w.heap.size, 0, none⟩) 0 0) 0 [] :=
  own_mk (Nat.le_refl _) (heap_alloc_new w _) (Nat.le_refl _) (Nat.zero_le _) rfl (rest := []) rfl rfl
def OfP (w0 w : World) (l : List S47) (k : Int) (e : Ending) (w' : World) : Prop := ∃ (V : Nat → Value) (A3 : Option Addr) (c3 : Nat), e = .returned (.tuple #[.agg #[.int .i64 k, .int .i64 (ofO l k).s.t.f1, .int .i64 (ofO l k).s.t.f2, .slice A3 (ofO l k).s.t.f3.length c3, V 0, .int .i64 ((opens (ofO l k).s).length : Int), V 1, V 2, V 3], .bool (namedV l k)]) ∧ Below w.heap.size w w' ∧ WI w' w.heap.size V (ofF (ofO l k)) ∧ (ofO l k).s.t.f3.length ≤ c3 ∧ Kd.C (Kd.int .i64) w0 A3 (ofO l k).s.t.f3.length (ofO l k).s.t.f3
set_option maxHeartbeats 4000000 in
theorem of_ok (A : Option Addr) (n c : Nat) (l : List S47) (k : Int) (w0 w : World) (hB0 : Below w0.heap.size w0 w) (hC : Kd.C k47 w0 A n l) (hn : n ≤ 300) (hnc : n ≤ c) : Calls Try.prog 25 #[.slice A n c, .int .i64 k] w (OfP w0 w l k) := by
  have HC := Aside0.mk hC
  have HB0 := Aside0.mk hB0
  clear hB0
  have HLn := Aside0.mk hC.1
  clear hC
  go_enter Try.func25, Try.ntmps25
  go_upto_region 1 with fail
  have HR := Aside0.mk (heap_alloc_new w (.cells #[.int .i64 0, .int .i64 0, .int .i64 0, .slice none 0 0, .slice none 0 0, .int .i64 0, .slice none 0 0, .slice none 0 0, .slice none 0 0] 70))
  have HB := Aside0.mk (below_alloc (Below.refl w.heap.size w) (.cells #[.int .i64 0, .int .i64 0, .int .i64 0, .slice none 0 0, .slice none 0 0, .int .i64 0, .slice none 0 0, .slice none 0 0, .slice none 0 0] 70))
  generalize w.alloc (.cells #[.int .i64 0, .int .i64 0, .int .i64 0, .slice none 0 0, .slice none 0 0, .int .i64 0, .slice none 0 0, .slice none 0 0, .slice none 0 0] 70) = w1 at HR HB ⊢
  obtain ⟨gR, HGR⟩ : ∃ g, Aside0 (w.heap.size = g) := ⟨_, ⟨rfl⟩⟩
  rw [HGR.out] at HR ⊢
  go_upto_region 2 with fail
  have HO1 := Aside0.mk (heap_alloc_new w1 (.cells #[.int .i64 k, .int .i64 0, .int .i64 0, .slice none 0 0, .slice none 0 0, .int .i64 0, .slice none 0 0, .slice none 0 0, .slice none 0 0] 70))
  have hb_ := below_alloc (Below.refl w1.heap.size w1) (.cells #[.int .i64 k, .int .i64 0, .int .i64 0, .slice none 0 0, .slice none 0 0, .int .i64 0, .slice none 0 0, .slice none 0 0, .slice none 0 0] 70)
  generalize w1.alloc (.cells #[.int .i64 k, .int .i64 0, .int .i64 0, .slice none 0 0, .slice none 0 0, .int .i64 0, .slice none 0 0, .slice none 0 0, .slice none 0 0] 70) = w2 at HO1 hb_ ⊢
  obtain ⟨go, HGO⟩ : ∃ g, Aside0 (w1.heap.size = g) := ⟨_, ⟨rfl⟩⟩
  rw [HGO.out] at HO1 ⊢
  have HOI : Aside0 (OfI w0 w w2 w2.heap.size gR go (fun _ => .slice none 0 0) none 0 ⟨newT k, [], []⟩) := ⟨⟨by
    have h := WI.start (w := w2) (base := w2.heap.size) (Nat.le_refl _)
    have e : (fun _ => [] : Nat → List Int) = ofF ⟨newT k, [], []⟩ := by
      funext j
      unfold ofF
      simp [newT, opens]
    rw [← e]
    exact h, HO1.out, blk_below HR.out hb_, ⟨Nat.le_refl _, C_nil w0⟩, below_on HB.out HB.out.size hb_, by have := blk_lt HR.out; rw [← HGO.out]; omega, by rw [HGR.out]; exact Nat.le_refl _, by rw [← HGO.out]; exact HB.out.size, (below_on HB.out HB.out.size hb_).size⟩⟩
  clear hb_ HO1 HR HB HGO
  go_wp2_with fail
  go_loopw [7, 8] (fun vn vi wr => ∃ (i : Nat) (V : Nat → Value) (A3 : Option Addr) (c3 : Nat) (o : OS) (nm : Bool), i ≤ n ∧ vi = .int .i64 (i : Int) ∧ vn = .bool nm ∧ Aside0 (namedV (l.take i) k = nm) ∧ Aside0 (ofO (l.take i) k = o) ∧ Aside0 (OfI w0 w wr w2.heap.size gR go V A3 c3 o)) (fun _ vi _ => n - (intOf vi).toNat)
  case atStart => exact ⟨0, _, _, _, _, _, Nat.zero_le _, rfl, rfl, ⟨rfl⟩, ⟨rfl⟩, HOI⟩
  case round =>
    clear HOI
    obtain ⟨i, V, A3, c3, o, nm, hi, rfl, rfl, HNM, HOF, HO⟩ := hrel
    by_cases hlt : i < n
    · have h1 : decide ((i : Int) < (n : Int)) = true := by simp; omega
      have h1b : decide (i < n) = true := by simp; omega
      obtain ⟨x, hx⟩ : ∃ x, l[i]? = some x := ⟨_, List.getElem?_eq_getElem (by rw [HLn.out]; exact hlt)⟩
      obtain ⟨ad, A9, c9, A10, c10, rfl, hcells⟩ := at_T47 HC.out (i : Int) (Int.natCast_nonneg _) (Int.ofNat_lt.2 hlt)
      rw [rd_eq hx] at hcells
      have htk : l.take (i + 1) = l.take i ++ [x] := by obtain ⟨a, e⟩ := List.getElem?_eq_some_iff.1 hx; rw [List.take_succ_eq_append_getElem a, e]
      have HON : Aside0 (ofO (l.take (i + 1)) k = if mine k x = true then stepOS (i : Int) x o else o) := ⟨by rw [htk, ofO_snoc, HOF.out, List.length_take, HLn.out, Nat.min_eq_left (by omega)]⟩
      have HNN : Aside0 (namedV (l.take (i + 1)) k = (nm || mine k x)) := ⟨by rw [htk, named_snoc, HNM.out]⟩
      have HOV : Aside0 (OInv i k o) := ⟨by have h := OInv.of (l.take i) k; rw [HOF.out, List.length_take, HLn.out, Nat.min_eq_left (by omega)] at h; exact h⟩
      clear hx htk HNM HOF
      obtain ⟨x0_, x1_, x2_, x3_, x4_, x5_, x6_, x7_, x8_, x9_, x10_, l9, k9, l10, k10⟩ := hcells
      replace x0_ := pw_cell_below (below_step HB0.out HO.out.bel) x0_
      replace x1_ := pw_cell_below (below_step HB0.out HO.out.bel) x1_
      replace x2_ := pw_cell_below (below_step HB0.out HO.out.bel) x2_
      replace x3_ := pw_cell_below (below_step HB0.out HO.out.bel) x3_
      replace x4_ := pw_cell_below (below_step HB0.out HO.out.bel) x4_
      replace x5_ := pw_cell_below (below_step HB0.out HO.out.bel) x5_
      replace x6_ := pw_cell_below (below_step HB0.out HO.out.bel) x6_
      replace x7_ := pw_cell_below (below_step HB0.out HO.out.bel) x7_
      replace x8_ := pw_cell_below (below_step HB0.out HO.out.bel) x8_
      replace x9_ := pw_cell_below (below_step HB0.out HO.out.bel) x9_
      replace x10_ := pw_cell_below (below_step HB0.out HO.out.bel) x10_
      rw [Int.toNat_natCast] at x0_ x1_ x2_ x3_ x4_ x5_ x6_ x7_ x8_ x9_ x10_
      have HK := Aside0.mk (And.intro (And.intro l9 k9) (And.intro l10 k10))
      clear l9 k9 l10 k10
      go_upto_region 7 with fail
      clear x0_ x1_ x2_ x3_ x4_ x5_ x6_ x7_ x8_ x9_ x10_
      have HX := Aside0.mk (heap_alloc_new wr (.cells #[.int .i64 x.f0, .int .i64 x.f1, .int .i64 x.f2, .int .i64 x.f3, .int .i64 x.f4, .int .i64 x.f5.f0, .int .i64 x.f5.f1, .int .i64 x.f5.f2, .bool x.f6, .slice A9 x.f7.length c9, .slice A10 x.f8.length c10] 47))
      have hb_ := below_alloc (Below.refl wr.heap.size wr) (.cells #[.int .i64 x.f0, .int .i64 x.f1, .int .i64 x.f2, .int .i64 x.f3, .int .i64 x.f4, .int .i64 x.f5.f0, .int .i64 x.f5.f1, .int .i64 x.f5.f2, .bool x.f6, .slice A9 x.f7.length c9, .slice A10 x.f8.length c10] 47)
      generalize wr.alloc (.cells #[.int .i64 x.f0, .int .i64 x.f1, .int .i64 x.f2, .int .i64 x.f3, .int .i64 x.f4, .int .i64 x.f5.f0, .int .i64 x.f5.f1, .int .i64 x.f5.f2, .bool x.f6, .slice A9 x.f7.length c9, .slice A10 x.f8.length c10] 47) = wx at HX hb_ ⊢
      obtain ⟨gx, HGX⟩ : ∃ g, Aside0 (wr.heap.size = g) := ⟨_, ⟨rfl⟩⟩
      rw [HGX.out] at HX ⊢
      replace HO := Aside0.mk (HO.out.below hb_)
      clear hb_
      obtain ⟨q, HQ⟩ : ∃ q, Aside0 (mine k x = q) := ⟨_, ⟨rfl⟩⟩
      rw [HQ.out] at HON HNN
      go_cut [42] (fun vq wc => vq = .bool (!q) ∧ Aside0 (Below wx.heap.size wx wc))
      case first =>
        have x0_ := (blk_cell (HX.out) 0).trans (rfl : _ = some (.int .i64 x.f0 : Value))
        have x1_ := (blk_cell (HX.out) 1).trans (rfl : _ = some (.int .i64 x.f1 : Value))
        have x2_ := (blk_cell (HX.out) 2).trans (rfl : _ = some (.int .i64 x.f2 : Value))
        have x3_ := (blk_cell (HX.out) 3).trans (rfl : _ = some (.int .i64 x.f3 : Value))
        have x4_ := (blk_cell (HX.out) 4).trans (rfl : _ = some (.int .i64 x.f4 : Value))
        have x5_ := (blk_cell (HX.out) 5).trans (rfl : _ = some (.int .i64 x.f5.f0 : Value))
        have x6_ := (blk_cell (HX.out) 6).trans (rfl : _ = some (.int .i64 x.f5.f1 : Value))
        have x7_ := (blk_cell (HX.out) 7).trans (rfl : _ = some (.int .i64 x.f5.f2 : Value))
        have x8_ := (blk_cell (HX.out) 8).trans (rfl : _ = some (.bool x.f6 : Value))
        have x9_ := (blk_cell (HX.out) 9).trans (rfl : _ = some (.slice A9 x.f7.length c9 : Value))
        have x10_ := (blk_cell (HX.out) 10).trans (rfl : _ = some (.slice A10 x.f8.length c10 : Value))
        go_wp2_with fail
        refine (refMay_ok x A9 A10 c9 c10 wx (Kd.C_below HK.out.1.2 (below_step HB0.out HO.out.bel)) HK.out.1.1 (Kd.C_below HK.out.2.2 (below_step HB0.out HO.out.bel)) HK.out.2.1).mono ?_
        rintro e_ wm ⟨rfl, hb_⟩
        obtain ⟨mm, HM⟩ : ∃ m, Aside0 (mayE x = m) := ⟨_, ⟨rfl⟩⟩
        rw [HM.out]
        have HBM := Aside0.mk hb_
        replace HX := Aside0.mk (blk_below HX.out hb_)
        clear hb_ x0_ x1_ x2_ x3_ x4_ x5_ x6_ x7_ x8_ x9_ x10_
        have x0_ := (blk_cell (HX.out) 0).trans (rfl : _ = some (.int .i64 x.f0 : Value))
        have x1_ := (blk_cell (HX.out) 1).trans (rfl : _ = some (.int .i64 x.f1 : Value))
        have hqq : (mm && (decide (2 ≤ x.f0) && decide (x.f0 ≤ 5)) && (x.f1 == k)) = q := by rw [← HQ.out, ← HM.out]; rfl
        have HQQ := Aside0.mk hqq
        clear hqq
        cases mm with
        | false =>
          go_wp2_with fail
          go_meet
          case rel => exact ⟨by rw [← HQQ.out]; rfl, HBM⟩
        | true =>
          by_cases h2 : x.f0 < 2
          · have d2_ : decide (x.f0 < 2) = true := by simpa using h2
            have HE : Aside0 (q = false) := ⟨by rw [← HQQ.out, decide_eq_false (show ¬ 2 ≤ x.f0 by omega)]; rfl⟩
            clear h2
            go_wp2_with fail
            go_meet
            case rel => exact ⟨by rw [HE.out]; rfl, HBM⟩
          · have d2_ : decide (x.f0 < 2) = false := by simpa using h2
            by_cases h5 : x.f0 > 5
            · have d5_ : decide (x.f0 > 5) = true := by simpa using h5
              have d5b_ : decide (5 < x.f0) = true := by simpa using h5
              have HE : Aside0 (q = false) := ⟨by rw [← HQQ.out, decide_eq_false (show ¬ x.f0 ≤ 5 by omega)]; simp⟩
              clear h2 h5
              go_wp2_with fail
              go_meet
              case rel => exact ⟨by rw [HE.out]; rfl, HBM⟩
            · have d5_ : decide (x.f0 > 5) = false := by simpa using h5
              have d5b_ : decide (5 < x.f0) = false := by simpa using h5
              have HE : Aside0 (q = (x.f1 == k)) := ⟨by rw [← HQQ.out, decide_eq_true (show 2 ≤ x.f0 by omega), decide_eq_true (show x.f0 ≤ 5 by omega)]; rfl⟩
              clear h2 h5
              obtain ⟨b, hb⟩ : ∃ b, (x.f1 == k) = b := ⟨_, rfl⟩
              have hb2 : (x.f1 != k) = !b := by rw [← hb]; rfl
              rw [hb] at HE
              go_wp2_with fail
              go_meet
              case rel => exact ⟨by rw [HE.out], HBM⟩
      case rest =>
      obtain ⟨rfl, HBM⟩ := hcut
      rename World => wy
      replace HO := Aside0.mk (HO.out.below HBM.out)
      replace HX := Aside0.mk (blk_below HX.out HBM.out)
      clear HBM
      cases q with
      | false =>
        go_wp2_with fail
        go_roundw
        case rel => exact ⟨i + 1, V, A3, c3, o, nm, by omega, by go_num, rfl, ⟨by rw [HNN.out]; simp⟩, ⟨by rw [HON.out]; rfl⟩, HO⟩
        case measure => simp [intOf]; omega
      | true =>
        have htx : tk x = true ∧ x.f1 = k := by have h := HQ.out; unfold mine at h; simpa using h
        have hmk := tk_of htx.1
        have HN8 := Aside0.mk (may_nums hmk.1).2.2.2.2.2.1
        rw [if_pos rfl] at HON
        rw [Bool.or_true] at HNN
        have HKD := Aside0.mk hmk.2
        clear htx hmk HQ
        by_cases h5 : x.f0 = 5
        · have d5_ : (x.f0 == 5) = true := by simpa using h5
          have HSF : Aside0 (stepOS (i : Int) x o = ⟨if o.s.t.f1 < x.f2 then fenceT x o.s else o.s, o.d, o.a⟩) := ⟨by
            have hc : ¬ isCm o.s x := fun e => by have := e.1; omega
            unfold stepOS
            rw [if_neg hc, if_neg hc]
            unfold stepO
            rw [if_pos h5]⟩
          rw [HSF.out] at HON
          clear h5
          by_cases hep : o.s.t.f1 < x.f2
          · have e1_ : decide (x.f2 > o.s.t.f1) = true := by simpa using hep
            have e2_ : decide (o.s.t.f1 < x.f2) = true := by simpa using hep
            rw [if_pos hep] at HON
            clear hep
            have x0_ := (blk_cell (HX.out) 0).trans (rfl : _ = some (.int .i64 x.f0 : Value))
            have x2_ := (blk_cell (HX.out) 2).trans (rfl : _ = some (.int .i64 x.f2 : Value))
            have o1_ := (blk_cell (HO.out.blk) 1).trans (rfl : _ = some (.int .i64 o.s.t.f1 : Value))
            have fo1_ := blk_frozen HO.out.blk 1
            have HO1 : Aside0 (OfI w0 w (wy.setCell ⟨go, 1, none⟩ (.int .i64 x.f2)) w2.heap.size gR go V A3 c3 ⟨⟨{ o.s.t with f1 := x.f2 }, o.s.o⟩, o.d, o.a⟩) := ⟨HO.out.set 1 (.int .i64 x.f2) rfl (by exact HO.out.wi) HO.out.c3⟩
            have HO2 : Aside0 (OfI w0 w ((wy.setCell ⟨go, 1, none⟩ (.int .i64 x.f2)).setCell ⟨go, 6, none⟩ (.slice none 0 0)) w2.heap.size gR go (updI V 1 (.slice none 0 0)) A3 c3 ⟨fenceT x o.s, o.d, o.a⟩) := ⟨HO1.out.set 6 (.slice none 0 0) rfl (by rw [← updF (⟨⟨{ o.s.t with f1 := x.f2 }, o.s.o⟩, o.d, o.a⟩ : OS) ⟨fenceT x o.s, o.d, o.a⟩ 1 [] rfl (fun j hj => by unfold ofF; simp only [if_neg hj]; rfl)]; exact HO1.out.wi.nil 1) HO.out.c3⟩
            have z6_ := (blk_cell HO1.out.blk 6).trans (rfl : _ = some (V 1 : Value))
            obtain ⟨A1, c1, hv1, _, _⟩ := slice_of (HO.out.wi.own 1)
            rw [hv1] at z6_
            have f6_ := blk_frozen HO1.out.blk 6
            clear hv1
            go_wp2_with fail
            go_roundw
            case rel => exact ⟨i + 1, _, A3, c3, _, true, by omega, by go_num, rfl, HNN, HON, HO2⟩
            case measure => simp [intOf]; omega
          · have e1_ : decide (x.f2 > o.s.t.f1) = false := by simpa using hep
            have e2_ : decide (o.s.t.f1 < x.f2) = false := by simpa using hep
            rw [if_neg hep] at HON
            clear hep
            have x0_ := (blk_cell (HX.out) 0).trans (rfl : _ = some (.int .i64 x.f0 : Value))
            have x2_ := (blk_cell (HX.out) 2).trans (rfl : _ = some (.int .i64 x.f2 : Value))
            have o1_ := (blk_cell (HO.out.blk) 1).trans (rfl : _ = some (.int .i64 o.s.t.f1 : Value))
            go_wp2_with fail
            go_roundw
            case rel => exact ⟨i + 1, V, A3, c3, o, true, by omega, by go_num, rfl, HNN, HON, HO⟩
            case measure => simp [intOf]; omega
        have d5_ : (x.f0 == 5) = false := by simpa using h5
        by_cases hne : x.f2 ≠ o.s.t.f1 ∨ x.f3 ≠ o.s.t.f2
        · have HSF : Aside0 (stepOS (i : Int) x o = o) := ⟨by
            have hc : ¬ isCm o.s x := fun e => hne.elim (fun h => h e.2.1) (fun h => h e.2.2)
            unfold stepOS
            rw [if_neg hc, if_neg hc]
            unfold stepO
            rw [if_neg h5, if_pos hne]⟩
          rw [HSF.out] at HON
          clear h5
          by_cases ha : x.f2 = o.s.t.f1
          · have n1_ : (x.f2 != o.s.t.f1) = false := by simp [ha]
            have n2_ : (x.f3 != o.s.t.f2) = true := by simp; exact hne.resolve_left (fun h => h ha)
            clear ha hne
            have x0_ := (blk_cell (HX.out) 0).trans (rfl : _ = some (.int .i64 x.f0 : Value))
            have x2_ := (blk_cell (HX.out) 2).trans (rfl : _ = some (.int .i64 x.f2 : Value))
            have x3_ := (blk_cell (HX.out) 3).trans (rfl : _ = some (.int .i64 x.f3 : Value))
            have o1_ := (blk_cell (HO.out.blk) 1).trans (rfl : _ = some (.int .i64 o.s.t.f1 : Value))
            have o2_ := (blk_cell (HO.out.blk) 2).trans (rfl : _ = some (.int .i64 o.s.t.f2 : Value))
            go_wp2_with fail
            go_roundw
            case rel => exact ⟨i + 1, V, A3, c3, o, true, by omega, by go_num, rfl, HNN, HON, HO⟩
            case measure => simp [intOf]; omega
          · have n1_ : (x.f2 != o.s.t.f1) = true := by simp [ha]
            clear ha hne
            have x0_ := (blk_cell (HX.out) 0).trans (rfl : _ = some (.int .i64 x.f0 : Value))
            have x2_ := (blk_cell (HX.out) 2).trans (rfl : _ = some (.int .i64 x.f2 : Value))
            have x3_ := (blk_cell (HX.out) 3).trans (rfl : _ = some (.int .i64 x.f3 : Value))
            have o1_ := (blk_cell (HO.out.blk) 1).trans (rfl : _ = some (.int .i64 o.s.t.f1 : Value))
            have o2_ := (blk_cell (HO.out.blk) 2).trans (rfl : _ = some (.int .i64 o.s.t.f2 : Value))
            go_wp2_with fail
            go_roundw
            case rel => exact ⟨i + 1, V, A3, c3, o, true, by omega, by go_num, rfl, HNN, HON, HO⟩
            case measure => simp [intOf]; omega
        have n1_ : (x.f2 != o.s.t.f1) = false := by simp; exact Decidable.byContradiction fun h => hne (.inl h)
        have n2_ : (x.f3 != o.s.t.f2) = false := by simp; exact Decidable.byContradiction fun h => hne (.inr h)
        have HEQ : Aside0 (x.f2 = o.s.t.f1 ∧ x.f3 = o.s.t.f2) := ⟨Decidable.byContradiction fun h => hne (.inl h), Decidable.byContradiction fun h => hne (.inr h)⟩
        by_cases h2 : x.f0 = 2
        · have d2_ : (x.f0 == 2) = true := by simpa using h2
          have HSF : Aside0 (stepOS (i : Int) x o = ⟨openT (i : Int) x o.s, o.d, o.a⟩) := ⟨by
            have hc : ¬ isCm o.s x := fun e => by have := e.1; omega
            unfold stepOS
            rw [if_neg hc, if_neg hc]
            unfold stepO
            rw [if_neg h5, if_neg hne, if_pos h2]⟩
          rw [HSF.out] at HON
          clear h5 hne h2
          have hal_ := below_alloc (Below.refl wy.heap.size wy) (.cells #[.int .i64 (i : Int)] 3)
          obtain ⟨v_, w6, hr_, hblk_, hof_, hsz_, A7, c7, rfl⟩ := (HO.out.below hal_).app 1 (.inl rfl) (i : Int) wy.heap.size (heap_alloc_new wy _) (by show (opens o.s).length ≤ _; unfold opens; rw [List.length_map]; have := HOV.out.op; omega) (o' := ⟨openT (i : Int) x o.s, o.d, o.a⟩) (updF _ _ 1 _ (by show opens (openT _ x o.s) = opens o.s ++ [_]; unfold opens openT; simp) fun j hj => by unfold ofF; simp only [if_neg hj]; rfl) rfl 39 rfl
          have HR := Aside0.mk hr_
          have HO2 : Aside0 (OfI w0 w (w6.setCell ⟨go, 6, none⟩ (.slice A7 ((ofF o 1).length + 1) c7)) w2.heap.size gR go (updI V 1 (.slice A7 ((ofF o 1).length + 1) c7)) A3 c3 ⟨openT (i : Int) x o.s, o.d, o.a⟩) := ⟨hof_⟩
          obtain ⟨v1, HV1⟩ : ∃ v, Aside0 (V 1 = v) := ⟨_, ⟨rfl⟩⟩
          obtain ⟨m1, HM1⟩ : ∃ m, Aside0 ((ofF o 1).length + 1 = m) := ⟨_, ⟨rfl⟩⟩
          rw [HM1.out] at HO2 HR
          rw [HV1.out] at HR
          have z6_ := (blk_cell hblk_ 6).trans (rfl : _ = some (V 1 : Value))
          have f6_ := blk_frozen hblk_ 6
          rw [HV1.out] at z6_
          have x0_ := (blk_cell (HX.out) 0).trans (rfl : _ = some (.int .i64 x.f0 : Value))
          have x2_ := (blk_cell (HX.out) 2).trans (rfl : _ = some (.int .i64 x.f2 : Value))
          have x3_ := (blk_cell (HX.out) 3).trans (rfl : _ = some (.int .i64 x.f3 : Value))
          have o1_ := (blk_cell (HO.out.blk) 1).trans (rfl : _ = some (.int .i64 o.s.t.f1 : Value))
          have o2_ := (blk_cell (HO.out.blk) 2).trans (rfl : _ = some (.int .i64 o.s.t.f2 : Value))
          have o6_ := (blk_cell (HO.out.blk) 6).trans (rfl : _ = some (V 1 : Value))
          rw [HV1.out] at o6_
          clear hal_ hr_ hblk_ hof_ hsz_
          go_wp2_with (at_builtin; refine wpList_append_eq _ rfl (.tmp 75) (.tmp 77) 39 39 rfl _ _ rfl rfl HR.out ?_)
          go_roundw
          case rel => exact ⟨i + 1, _, A3, c3, _, true, by omega, by go_num, rfl, HNN, HON, HO2⟩
          case measure => simp [intOf]; omega
        have d2_ : (x.f0 == 2) = false := by simpa using h2
        obtain ⟨b3, hb3⟩ : ∃ b, (x.f0 == 3) = b := ⟨_, rfl⟩
        have HB3 := Aside0.mk hb3
        have HSF : Aside0 (stepOS (i : Int) x o = ⟨endT (if b3 = true then offsT x o.s else o.s), if b3 = true then o.d ++ opens o.s else o.d, if b3 = true then o.a ++ (opens o.s).map (fun _ => (i : Int)) else o.a⟩) := ⟨by
          cases b3 with
          | true =>
            have h3 : x.f0 = 3 := by simpa using hb3
            have hc : isCm o.s x := ⟨h3, HEQ.out⟩
            unfold stepOS
            rw [if_pos hc, if_pos hc, if_pos rfl, if_pos rfl, if_pos rfl]
            unfold stepO
            rw [if_neg h5, if_neg hne, if_neg h2, if_pos h3]
          | false =>
            have h3 : ¬ x.f0 = 3 := by simpa using hb3
            have hc : ¬ isCm o.s x := fun e => h3 e.1
            unfold stepOS
            rw [if_neg hc, if_neg hc, if_neg (by simp), if_neg (by simp), if_neg (by simp)]
            unfold stepO
            rw [if_neg h5, if_neg hne, if_neg h2, if_neg h3]⟩
        rw [HSF.out] at HON
        clear h5 hne h2
        have x0_ := (blk_cell (HX.out) 0).trans (rfl : _ = some (.int .i64 x.f0 : Value))
        have x2_ := (blk_cell (HX.out) 2).trans (rfl : _ = some (.int .i64 x.f2 : Value))
        have x3_ := (blk_cell (HX.out) 3).trans (rfl : _ = some (.int .i64 x.f3 : Value))
        have o1_ := (blk_cell (HO.out.blk) 1).trans (rfl : _ = some (.int .i64 o.s.t.f1 : Value))
        have o2_ := (blk_cell (HO.out.blk) 2).trans (rfl : _ = some (.int .i64 o.s.t.f2 : Value))
        go_upto_if 82 with (fail)
        clear x0_ x2_ x3_ o1_ o2_
        go_cut [7] (fun vn wc => ∃ (V : Nat → Value) (A3 : Option Addr) (c3 : Nat), vn = .bool true ∧ Aside0 (OfI w0 w wc w2.heap.size gR go V A3 c3 ⟨if b3 = true then offsT x o.s else o.s, if b3 = true then o.d ++ opens o.s else o.d, if b3 = true then o.a ++ (opens o.s).map (fun _ => (i : Int)) else o.a⟩))
        case first =>
          cases b3 with
          | false =>
            go_wp2_with fail
            go_meet
            case rel => exact ⟨V, A3, c3, rfl, HO⟩
          | true =>
            have hm0b := HOV.out.f4
            have x9_ := (blk_cell (HX.out) 9).trans (rfl : _ = some (.slice A9 x.f7.length c9 : Value))
            have o3_ := (blk_cell HO.out.blk 3).trans (rfl : _ = some (.slice A3 o.s.t.f3.length c3 : Value))
            have f3_ := blk_frozen HO.out.blk 3
            go_upto_region 18 with fail
            clear x9_ o3_ f3_
            have HO1 : Aside0 (OfI w0 w (wy.setCell ⟨go, 3, none⟩ (.slice A9 x.f7.length c9)) w2.heap.size gR go V A9 c9 ⟨⟨{ o.s.t with f3 := x.f7 }, o.s.o⟩, o.d, o.a⟩) := ⟨HO.out.set 3 (.slice A9 x.f7.length c9) rfl (by exact HO.out.wi) HK.out.1⟩
            replace HX := Aside0.mk ((Below.heap_setCell wy ⟨go, 3, none⟩ (.slice A9 x.f7.length c9) gx (blk_types HX.out HO.out.blk (by decide))).trans HX.out)
            generalize wy.setCell ⟨go, 3, none⟩ (.slice A9 x.f7.length c9) = wk at HO1 HX ⊢
            replace HO := HO1
            clear HO1
            obtain ⟨A0, c0, hv0, hl0, hc0⟩ := intC (HO.out.wi.own 0) rfl
            change V 0 = .slice A0 o.s.t.f4.length c0 at hv0
            change Kd.C _ wk A0 o.s.t.f4.length o.s.t.f4 at hc0
            obtain ⟨m0, HM0⟩ : ∃ m, Aside0 (o.s.t.f4.length = m) := ⟨_, ⟨rfl⟩⟩
            rw [HM0.out] at hv0 hc0 hm0b
            have hm0 : m0 ≤ 80000 := by omega
            have HV0 := Aside0.mk hv0
            have HC0 := Aside0.mk hc0
            clear hv0 hl0 hc0 hm0b
            refine start_ (n := 11) (S := fun w' => Below wk.heap.size wk w') (ds := [7, 10]) #[false, false, false, false, false, false, false, false, false, false, false] (by kernel_rfl) rfl rfl (below_drew (Below.refl _ _)) (fun hHeld => ?_)
            refine pure_ (i := 1) (N := some 88) (v := ?_) (a' := ?_) #[false, true, false, false, false, false, false, false, false, false, false] rfl rfl (by kernel_rfl) (fun _ _ _ h => h) (Or.inl ⟨by rfl, ?_⟩) ?_ ?_
            rotate_left
            · intro w'
              go_simp
              with_reducible rfl
            rotate_left
            · simp only [Act.put, List.setIfInBounds_toArray, List.set_cons_zero, List.set_cons_succ, i64_w, i32_w]
              rfl
            refine pure_ (i := 2) (N := some 89) (v := ?_) (a' := ?_) #[false, true, true, false, false, false, false, false, false, false, false] rfl rfl (by kernel_rfl) (fun _ _ _ h => h) (Or.inl ⟨by rfl, ?_⟩) ?_ ?_
            rotate_left
            · intro w'
              go_simp
              with_reducible rfl
            rotate_left
            · simp only [Act.put, List.setIfInBounds_toArray, List.set_cons_zero, List.set_cons_succ, i64_w, i32_w]
              rfl
            refine pure_ (i := 5) (N := some 92) (v := ?_) (a' := ?_) #[false, true, true, false, false, true, false, false, false, false, false] rfl rfl (by kernel_rfl) (fun _ _ _ h => h) (Or.inl ⟨by rfl, ?_⟩) ?_ ?_
            rotate_left
            · intro w'
              go_simp
              with_reducible rfl
            rotate_left
            · simp only [Act.put, List.setIfInBounds_toArray, List.set_cons_zero, List.set_cons_succ, i64_w, i32_w]
              rfl
            refine take_ (i := 3) (N := some 90) (v := ?_) (a' := ?_) #[false, true, true, true, false, true, false, false, false, false, false] rfl rfl (by kernel_rfl) (fun _ _ _ h => h) (Or.inl ⟨by rfl, ?_⟩) hHeld ?_ ?_
            rotate_left
            · intro w' hS
              have c_ := (blk_cell (HO.out.below hS).blk 4).trans (rfl : _ = some (V 0 : Value))
              rw [HV0.out] at c_
              go_simp
              with_reducible rfl
            rotate_left
            · simp only [Act.put, List.setIfInBounds_toArray, List.set_cons_zero, List.set_cons_succ, i64_w, i32_w]
              rfl
            refine take_ (i := 6) (N := some 93) (v := ?_) (a' := ?_) #[false, true, true, true, false, true, true, false, false, false, false] rfl rfl (by kernel_rfl) (fun _ _ _ h => h) (Or.inl ⟨by rfl, ?_⟩) hHeld ?_ ?_
            rotate_left
            · intro w' hS
              have c_ := (blk_cell (blk_below HX.out hS) 8).trans (rfl : _ = some (.bool x.f6 : Value))
              have d_ := (blk_cell (blk_below HX.out hS) 10).trans (rfl : _ = some (.slice A10 x.f8.length c10 : Value))
              go_simp
              with_reducible rfl
            rotate_left
            · simp only [Act.put, List.setIfInBounds_toArray, List.set_cons_zero, List.set_cons_succ, i64_w, i32_w]
              rfl
            refine one_ (i := 0) (N := some 87) #[true, true, true, true, false, true, true, false, false, false, false] rfl rfl (by kernel_rfl) (by simp) (fun K hK => ?_)
            refine value_ (w1 := wk.drew.alloc (.cells #[] 3)) (v := .slice (some ⟨wk.drew.heap.size, 0, none⟩) 0 0) (by rfl) rfl (by first | (go_simp; done) | (go_simp; rfl)) ?_
            have hb_ := below_alloc (Below.refl wk.drew.heap.size wk.drew) (.cells #[] 3)
            replace hb_ := below_step hHeld hb_
            refine hK.out _ _ hb_ (fun _ => ?_)
            clear hK K
            refine norm_ (a' := ?_) ?_ ?_
            rotate_left
            · show Act.put _ (some 87) _ = _
              simp only [Act.put, List.setIfInBounds_toArray, List.set_cons_zero, List.set_cons_succ, i64_w, i32_w]
              rfl
            have HNW := Aside0.mk (ints_lit wk.drew)
            replace hHeld := hb_
            generalize wk.drew.alloc (.cells #[] 3) = we at HNW hHeld hb_ ⊢
            clear hb_
            refine one_ (i := 4) (N := some 91) #[true, true, true, true, true, true, true, false, false, false, false] rfl rfl (by kernel_rfl) (by simp) (fun K hK => ?_)
            obtain ⟨v_, w5, hr_, ho_, hg_, _, A7, c7, rfl⟩ := app_C 39 rfl we wk.heap.size 0 _ [] HNW.out A0 m0 c0 o.s.t.f4 (Kd.C_below HC0.out hHeld) (by omega) hHeld.size
            have hb_ := hHeld.grown hg_ hHeld.size fun k hk => (Ow.own_lt HNW.out k hk).1
            have HOW := Aside0.mk ho_
            replace hHeld := Below.refl wk.heap.size wk
            refine value_ (w1 := w5) (v := .slice A7 (0 + m0) c7) (by rfl) rfl (append_exec (.tmp 87) (.tmp 90) 39 rfl rfl rfl hr_) ?_
            replace hb_ := below_step hHeld hb_
            refine hK.out _ _ hb_ (fun _ => ?_)
            clear hK K
            refine norm_ (a' := ?_) ?_ ?_
            rotate_left
            · show Act.put _ (some 91) _ = _
              simp only [Act.put, List.setIfInBounds_toArray, List.set_cons_zero, List.set_cons_succ, i64_w, i32_w]
              rfl
            have HB5 := Aside0.mk hb_
            clear hr_ ho_ hg_
            replace hHeld := hb_
            clear hb_
            refine last_ (i := 7) (N := some 94) #[true, true, true, true, true, true, true, true, false, false, false] rfl rfl (by kernel_rfl) (by simp) (fun K hK => ?_)
            obtain ⟨v_, w6, hr_, ho_, hg_, _, A8, c8, rfl⟩ := app_C 39 rfl w5 wk.heap.size (0 + m0) _ _ HOW.out A10 x.f8.length c10 x.f8 (Kd.C_below HK.out.2.2 (below_step HB0.out (below_on HO.out.bel HO.out.bel.size HB5.out))) (by have := HN8.out; omega) HB5.out.size
            have HB6 := Aside0.mk (HB5.out.grown hg_ HB5.out.size fun k hk => (Ow.own_lt HOW.out k hk).1)
            have HOW2 := Aside0.mk ho_
            clear hHeld
            refine value_ (w1 := w6) (v := .slice A8 (0 + m0 + x.f8.length) c8) (by rfl) rfl (append_exec (.tmp 91) (.tmp 93) 39 rfl rfl rfl hr_) ?_
            clear hr_ ho_ hg_
            refine hK.out _ _ ?_
            clear hK K
            refine norm_ (a' := ?_) ?_ ?_
            rotate_left
            · show Act.put _ (some 94) _ = _
              simp only [Act.put, List.setIfInBounds_toArray, List.set_cons_zero, List.set_cons_succ, i64_w, i32_w]
              rfl
            refine pure_ (i := 8) (N := some 95) (v := ?_) (a' := ?_) #[true, true, true, true, true, true, true, true, true, false, false] rfl rfl (by kernel_rfl) (fun _ _ _ h => h) (Or.inl ⟨by rfl, ?_⟩) ?_ ?_
            rotate_left
            · intro w'
              go_simp
              with_reducible rfl
            rotate_left
            · simp only [Act.put, List.setIfInBounds_toArray, List.set_cons_zero, List.set_cons_succ, i64_w, i32_w]
              rfl
            refine pure_ (i := 9) (N := some 96) (v := ?_) (a' := ?_) #[true, true, true, true, true, true, true, true, true, true, false] rfl rfl (by kernel_rfl) (fun _ _ _ h => h) (Or.inl ⟨by rfl, ?_⟩) ?_ ?_
            rotate_left
            · intro w'
              go_simp
              with_reducible rfl
            rotate_left
            · simp only [Act.put, List.setIfInBounds_toArray, List.set_cons_zero, List.set_cons_succ, i64_w, i32_w]
              rfl
            refine last_ (i := 10) (N := none) #[true, true, true, true, true, true, true, true, true, true, true] rfl rfl (by kernel_rfl) (by simp) (fun K hK => ?_)
            have z_ := (blk_cell (HO.out.below HB6.out).blk 4).trans (rfl : _ = some (V 0 : Value))
            rw [HV0.out] at z_
            have f_ := blk_frozen (HO.out.below HB6.out).blk 4
            refine skip_ (w1 := w6.setCell ⟨go, 4, none⟩ (.slice A8 (0 + m0 + x.f8.length) c8)) (by rfl) rfl (by first | (go_simp; done) | (go_simp; rfl)) ?_
            clear z_ f_
            refine hK.out _ _ ?_
            clear hK K
            refine done_ (by kernel_rfl) ?_

            have HO3 : Aside0 (OfI w0 w (w6.setCell ⟨go, 4, none⟩ (.slice A8 (0 + m0 + x.f8.length) c8)) w2.heap.size gR go (updI V 0 (.slice A8 (0 + m0 + x.f8.length) c8)) A9 c9 ⟨offsT x o.s, o.d, o.a⟩) := ⟨(HO.out.below HB6.out).set 4 _ rfl (by
              rw [← updF (⟨⟨{ o.s.t with f3 := x.f7 }, o.s.o⟩, o.d, o.a⟩ : OS) ⟨offsT x o.s, o.d, o.a⟩ 0 (o.s.t.f4 ++ x.f8) rfl (fun j hj => by unfold ofF; simp only [if_neg hj]; rfl)]
              refine HO.out.wi.fresh HB6.out 0 ?_
              have h := HOW2.out
              rw [List.nil_append, ← cellsI_append, show 0 + m0 + x.f8.length = (o.s.t.f4 ++ x.f8).length by rw [List.length_append, HM0.out]; omega] at h
              rw [show 0 + m0 + x.f8.length = (o.s.t.f4 ++ x.f8).length by rw [List.length_append, HM0.out]; omega]
              exact h) HK.out.1⟩
            generalize w6.setCell ⟨go, 4, none⟩ (.slice A8 (0 + m0 + x.f8.length) c8) = wl at HO3 ⊢
            obtain ⟨V5, HV5⟩ : ∃ V5, Aside0 (updI V 0 (.slice A8 (0 + m0 + x.f8.length) c8) = V5) := ⟨_, ⟨rfl⟩⟩
            rw [HV5.out] at HO3
            obtain ⟨s2, HS2⟩ : ∃ s2, Aside0 (offsT x o.s = s2) := ⟨_, ⟨rfl⟩⟩
            obtain ⟨ops, HOPS⟩ : ∃ ops, Aside0 (opens o.s = ops) := ⟨_, ⟨rfl⟩⟩
            have HOP2 : Aside0 (opens s2 = ops) := ⟨by rw [← HS2.out, ← HOPS.out]; rfl⟩
            obtain ⟨mo, HMO⟩ : ∃ m, Aside0 (ops.length = m) := ⟨_, ⟨rfl⟩⟩
            have HBD : Aside0 (mo + o.d.length ≤ i ∧ o.a.length = o.d.length) := ⟨by rw [← HMO.out, ← HOPS.out]; unfold opens; rw [List.length_map]; exact ⟨HOV.out.op, HOV.out.da⟩⟩
            rw [HS2.out] at HO3
            clear HO HX HV0 HC0 HB5 HB6 HOW HOW2 HNW
            go_wp2_with fail
            go_loopw [10] (fun vk wk => ∃ (kk : Nat) (V : Nat → Value), kk ≤ mo ∧ vk = .int .i64 (kk : Int) ∧ Aside0 (OfI w0 w wk w2.heap.size gR go V A9 c9 ⟨s2, o.d ++ ops.take kk, o.a ++ (ops.take kk).map fun _ => (i : Int)⟩)) (fun vk _ => mo - (intOf vk).toNat)
            case atStart => exact ⟨0, V5, Nat.zero_le _, rfl, ⟨by rw [List.take_zero, List.map_nil, List.append_nil, List.append_nil]; exact HO3.out⟩⟩
            case round =>
              clear HO3
              obtain ⟨kk, V, hkk, rfl, HO⟩ := hrel
              rename World => wk
              have hmo3 : mo ≤ 300 := by have := HBD.out.1; omega
              have HDT : Aside0 ((o.d ++ ops.take kk).length ≤ 300 ∧ (o.a ++ (ops.take kk).map fun _ => (i : Int)).length ≤ 300) := ⟨by
                rw [List.length_append, List.length_append, List.length_map, List.length_take, HMO.out]
                have := HBD.out
                omega⟩
              obtain ⟨dk, HDK⟩ : ∃ dk, Aside0 (o.d ++ ops.take kk = dk) := ⟨_, ⟨rfl⟩⟩
              obtain ⟨ak, HAK⟩ : ∃ ak, Aside0 ((o.a ++ (ops.take kk).map fun _ => (i : Int)) = ak) := ⟨_, ⟨rfl⟩⟩
              rw [HDK.out, HAK.out] at HO HDT
              obtain ⟨A1, c1, hv1, hl1, hc1⟩ := intC (HO.out.wi.own 1) rfl
              change V 1 = .slice A1 (opens s2).length c1 at hv1
              change Kd.C _ wk A1 (opens s2).length (opens s2) at hc1
              rw [HOP2.out, HMO.out] at hv1
              rw [HOP2.out, HMO.out] at hc1
              have HV1 := Aside0.mk hv1
              have HC1 := Aside0.mk hc1
              have o6_ := (blk_cell HO.out.blk 6).trans (rfl : _ = some (V 1 : Value))
              rw [HV1.out] at o6_
              clear hv1 hl1 hc1
              by_cases hkl : kk < mo
              · have k1_ : decide ((kk : Int) < (mo : Int)) = true := by simp; omega
                have k1b_ : decide (kk < mo) = true := by simp; omega
                have hki : (kk : Int) < (mo : Int) := by omega
                obtain ⟨y, HYY⟩ : ∃ y, Aside0 (rd ops (kk : Int) = y) := ⟨_, ⟨rfl⟩⟩
                obtain ⟨ad1, rfl, hy_⟩ := Kd.at_int HC1.out (kk : Int) (Int.natCast_nonneg _) hki
                rw [HYY.out] at hy_
                rw [Int.toNat_natCast] at hy_
                have HY1 := Aside0.mk (And.intro hy_ trivial)
                have HDN : Aside0 (o.d ++ ops.take (kk + 1) = dk ++ [y]) := ⟨by
                  rw [← HDK.out, ← HYY.out, List.append_assoc, List.take_succ_eq_append_getElem (by rw [HMO.out]; exact hkl)]
                  unfold rd
                  rw [Int.toNat_natCast, List.getD_eq_getElem?_getD, List.getElem?_eq_getElem (by rw [HMO.out]; exact hkl)]
                  rfl⟩
                have HAN : Aside0 ((o.a ++ (ops.take (kk + 1)).map fun _ => (i : Int)) = ak ++ [(i : Int)]) := ⟨by
                  rw [← HAK.out, List.append_assoc, List.take_succ_eq_append_getElem (by rw [HMO.out]; exact hkl), List.map_append]
                  rfl⟩
                have HDL : Aside0 ((ofF (⟨s2, dk, ak⟩ : OS) 2).length ≤ 1000000) := ⟨by show dk.length ≤ _; have := HDT.out; omega⟩
                obtain ⟨v2, HV2⟩ : ∃ v, Aside0 (V 2 = v) := ⟨_, ⟨rfl⟩⟩
                clear hy_
                go_upto_region 22 with fail
                clear o6_
                refine start_ (n := 11) (S := fun w' => Below wk.heap.size wk w') (ds := [8, 10]) #[false, false, false, false, false, false, false, false, false, false, false] (by kernel_rfl) rfl rfl (below_drew (Below.refl _ _)) (fun hHeld => ?_)
                refine pure_ (i := 0) (N := some 104) (v := ?_) (a' := ?_) #[true, false, false, false, false, false, false, false, false, false, false] rfl rfl (by kernel_rfl) (fun _ _ _ h => h) (Or.inl ⟨by rfl, ?_⟩) ?_ ?_
                rotate_left
                · intro w'
                  go_simp
                  with_reducible rfl
                rotate_left
                · simp only [Act.put, List.setIfInBounds_toArray, List.set_cons_zero, List.set_cons_succ, i64_w, i32_w]
                  rfl
                refine pure_ (i := 2) (N := some 106) (v := ?_) (a' := ?_) #[true, false, true, false, false, false, false, false, false, false, false] rfl rfl (by kernel_rfl) (fun _ _ _ h => h) (Or.inl ⟨by rfl, ?_⟩) ?_ ?_
                rotate_left
                · intro w'
                  go_simp
                  with_reducible rfl
                rotate_left
                · simp only [Act.put, List.setIfInBounds_toArray, List.set_cons_zero, List.set_cons_succ, i64_w, i32_w]
                  rfl
                refine pure_ (i := 4) (N := some 108) (v := ?_) (a' := ?_) #[true, false, true, false, true, false, false, false, false, false, false] rfl rfl (by kernel_rfl) (fun _ _ _ h => h) (Or.inl ⟨by rfl, ?_⟩) ?_ ?_
                rotate_left
                · intro w'
                  go_simp
                  with_reducible rfl
                rotate_left
                · simp only [Act.put, List.setIfInBounds_toArray, List.set_cons_zero, List.set_cons_succ, i64_w, i32_w]
                  rfl
                refine take_ (i := 1) (N := some 105) (v := ?_) (a' := ?_) #[true, true, true, false, true, false, false, false, false, false, false] rfl rfl (by kernel_rfl) (fun _ _ _ h => h) (Or.inl ⟨by rfl, ?_⟩) hHeld ?_ ?_
                rotate_left
                · intro w' hS
                  have c_ := (blk_cell (HO.out.below hS).blk 7).trans (rfl : _ = some (V 2 : Value))
                  rw [HV2.out] at c_
                  go_simp
                  with_reducible rfl
                rotate_left
                · simp only [Act.put, List.setIfInBounds_toArray, List.set_cons_zero, List.set_cons_succ, i64_w, i32_w]
                  rfl
                refine take_ (i := 3) (N := some 107) (v := ?_) (a' := ?_) #[true, true, true, true, true, false, false, false, false, false, false] rfl rfl (by kernel_rfl) (fun _ _ _ h => h) (Or.inl ⟨by rfl, ?_⟩) hHeld ?_ ?_
                rotate_left
                · intro w' hS
                  have c_ := (blk_cell (HO.out.below hS).blk 6).trans (rfl : _ = some (V 1 : Value))
                  rw [HV1.out] at c_
                  go_simp
                  with_reducible rfl
                rotate_left
                · simp only [Act.put, List.setIfInBounds_toArray, List.set_cons_zero, List.set_cons_succ, i64_w, i32_w]
                  rfl
                refine pure_ (i := 5) (N := some 109) (v := ?_) (a' := ?_) #[true, true, true, true, true, true, false, false, false, false, false] rfl rfl (by kernel_rfl) (fun _ _ _ h => h) (Or.inl ⟨by rfl, ?_⟩) ?_ ?_
                rotate_left
                · intro w'
                  go_simp
                  with_reducible rfl
                rotate_left
                · simp only [Act.put, List.setIfInBounds_toArray, List.set_cons_zero, List.set_cons_succ, i64_w, i32_w]
                  rfl
                refine take_ (i := 6) (N := some 110) (v := ?_) (a' := ?_) #[true, true, true, true, true, true, true, false, false, false, false] rfl rfl (by kernel_rfl) (fun _ _ _ h => h) (Or.inl ⟨by rfl, ?_⟩) hHeld ?_ ?_
                rotate_left
                · intro w' hS
                  have c_ := pw_cell_below hS HY1.out.1
                  go_simp
                  with_reducible rfl
                rotate_left
                · simp only [Act.put, List.setIfInBounds_toArray, List.set_cons_zero, List.set_cons_succ, i64_w, i32_w]
                  rfl
                refine one_ (i := 7) (N := some 111) #[true, true, true, true, true, true, true, true, false, false, false] rfl rfl (by kernel_rfl) (by simp) (fun K hK => ?_)
                refine value_ (w1 := wk.drew.alloc (.cells #[.int .i64 y] 3)) (v := .slice (some ⟨wk.drew.heap.size, 0, none⟩) 1 1) (by rfl) rfl (by first | (go_simp; done) | (go_simp; rfl)) ?_
                have hb_ := below_alloc (Below.refl wk.drew.heap.size wk.drew) (.cells #[.int .i64 y] 3)
                replace hb_ := below_step hHeld hb_
                refine hK.out _ _ hb_ (fun _ => ?_)
                clear hK K
                refine norm_ (a' := ?_) ?_ ?_
                rotate_left
                · show Act.put _ (some 111) _ = _
                  simp only [Act.put, List.setIfInBounds_toArray, List.set_cons_zero, List.set_cons_succ, i64_w, i32_w]
                  rfl
                have HNW := Aside0.mk (heap_alloc_new wk.drew (.cells #[.int .i64 y] 3))
                replace hHeld := hb_
                generalize wk.drew.alloc (.cells #[.int .i64 y] 3) = we at HNW hHeld hb_ ⊢
                obtain ⟨gl, HGL⟩ : ∃ g, Aside0 (wk.drew.heap.size = g) := ⟨_, ⟨rfl⟩⟩
                rw [HGL.out] at HNW ⊢
                clear hb_
                refine last_ (i := 8) (N := some 112) #[true, true, true, true, true, true, true, true, true, false, false] rfl rfl (by kernel_rfl) (by simp) (fun K hK => ?_)
                obtain ⟨v_, w6, hr_, hblk_, hof_, hsz_, A7, c7, rfl⟩ := (HO.out.below hHeld).app 2 (.inr (.inl rfl)) y gl HNW.out HDL.out (o' := ⟨s2, dk ++ [y], ak⟩) (updF _ _ 2 _ rfl fun j hj => by unfold ofF; simp only [if_neg hj]) rfl 39 rfl
                have hdk_ : (ofF (⟨s2, dk, ak⟩ : OS) 2).length = dk.length := rfl
                rw [hdk_] at hr_ hof_
                clear hdk_
                rw [HV2.out] at hr_
                have HBK := Aside0.mk hblk_
                have HO2 : Aside0 (OfI w0 w (w6.setCell ⟨go, 7, none⟩ (.slice A7 (dk.length + 1) c7)) w2.heap.size gR go (updI V 2 (.slice A7 (dk.length + 1) c7)) A9 c9 ⟨s2, dk ++ [y], ak⟩) := ⟨hof_⟩
                refine value_ (w1 := w6) (v := .slice A7 (dk.length + 1) c7) (by rfl) rfl (append_exec (.tmp 105) (.tmp 111) 39 rfl rfl rfl hr_) ?_
                clear hr_ hblk_ hof_ hsz_ hHeld
                refine hK.out _ _ ?_
                clear hK K
                refine norm_ (a' := ?_) ?_ ?_
                rotate_left
                · show Act.put _ (some 112) _ = _
                  simp only [Act.put, List.setIfInBounds_toArray, List.set_cons_zero, List.set_cons_succ, i64_w, i32_w]
                  rfl
                refine pure_ (i := 9) (N := some 113) (v := ?_) (a' := ?_) #[true, true, true, true, true, true, true, true, true, true, false] rfl rfl (by kernel_rfl) (fun _ _ _ h => h) (Or.inl ⟨by rfl, ?_⟩) ?_ ?_
                rotate_left
                · intro w'
                  go_simp
                  with_reducible rfl
                rotate_left
                · simp only [Act.put, List.setIfInBounds_toArray, List.set_cons_zero, List.set_cons_succ, i64_w, i32_w]
                  rfl
                refine last_ (i := 10) (N := none) #[true, true, true, true, true, true, true, true, true, true, true] rfl rfl (by kernel_rfl) (by simp) (fun K hK => ?_)
                have z_ := (blk_cell HBK.out 7).trans (rfl : _ = some (V 2 : Value))
                rw [HV2.out] at z_
                have f_ := blk_frozen HBK.out 7
                refine skip_ (w1 := w6.setCell ⟨go, 7, none⟩ (.slice A7 (dk.length + 1) c7)) (by rfl) rfl (by first | (go_simp; done) | (go_simp; rfl)) ?_
                clear z_ f_
                refine hK.out _ _ ?_
                clear hK K
                refine done_ (by kernel_rfl) ?_

                generalize w6.setCell ⟨go, 7, none⟩ (.slice A7 (dk.length + 1) c7) = w7 at HO2 ⊢
                obtain ⟨V6, HV6⟩ : ∃ V6, Aside0 (updI V 2 (.slice A7 (dk.length + 1) c7) = V6) := ⟨_, ⟨rfl⟩⟩
                rw [HV6.out] at HO2
                have hal_ := below_alloc (Below.refl w7.heap.size w7) (.cells #[.int .i64 (i : Int)] 3)
                obtain ⟨v_, w8, hr_, hblk_, hof_, hsz_, A8b, c8b, rfl⟩ := (HO2.out.below hal_).app 3 (.inr (.inr rfl)) (i : Int) w7.heap.size (heap_alloc_new w7 _) (by show ak.length ≤ _; have := HDT.out; omega) (o' := ⟨s2, dk ++ [y], ak ++ [(i : Int)]⟩) (updF _ _ 3 _ rfl fun j hj => by unfold ofF; simp only [if_neg hj]) rfl 39 rfl
                have hak_ : (ofF (⟨s2, dk ++ [y], ak⟩ : OS) 3).length = ak.length := rfl
                rw [hak_] at hr_ hof_
                obtain ⟨v3, HV3⟩ : ∃ v, Aside0 (V6 3 = v) := ⟨_, ⟨rfl⟩⟩
                rw [HV3.out] at hr_
                have HR := Aside0.mk hr_
                have HO3 : Aside0 (OfI w0 w (w8.setCell ⟨go, 8, none⟩ (.slice A8b (ak.length + 1) c8b)) w2.heap.size gR go (updI V6 3 (.slice A8b (ak.length + 1) c8b)) A9 c9 ⟨s2, dk ++ [y], ak ++ [(i : Int)]⟩) := ⟨hof_⟩
                have z8_ := (blk_cell hblk_ 8).trans (rfl : _ = some (V6 3 : Value))
                have f8_ := blk_frozen hblk_ 8
                have o8_ := (blk_cell HO2.out.blk 8).trans (rfl : _ = some (V6 3 : Value))
                rw [HV3.out] at z8_ o8_
                clear hal_ hr_ hblk_ hof_ hsz_ hak_
                go_wp2_with (at_builtin; refine wpList_append_eq _ rfl (.tmp 115) (.tmp 117) 39 39 rfl _ _ rfl rfl HR.out ?_)
                go_roundw
                case rel => exact ⟨kk + 1, _, by omega, by go_num, ⟨by rw [HDN.out, HAN.out]; exact HO3.out⟩⟩
                case measure => simp [intOf]; omega
              · obtain rfl : mo = kk := by omega
                have k1b_ : decide (mo < mo) = false := by simp
                have HDE : Aside0 (dk = o.d ++ ops ∧ ak = o.a ++ ops.map fun _ => (i : Int)) := ⟨by rw [← HDK.out, ← HAK.out, List.take_of_length_le (by rw [HMO.out]; exact Nat.le_refl _)]; exact ⟨rfl, rfl⟩⟩
                rw [HDE.out.1, HDE.out.2] at HO
                go_wp2_with fail
                go_meet
                case rel => exact ⟨V, A9, c9, rfl, by rw [← HS2.out, ← HOPS.out] at HO; exact HO⟩
        case rest =>
        obtain ⟨V4, A4, c4, rfl, HO4⟩ := hcut
        rename World => w8
        have HF2 : Aside0 ((if b3 = true then offsT x o.s else o.s).t.f2 = o.s.t.f2) := ⟨by cases b3 <;> rfl⟩
        obtain ⟨s4, HS4⟩ : ∃ s4, Aside0 ((if b3 = true then offsT x o.s else o.s) = s4) := ⟨_, ⟨rfl⟩⟩
        obtain ⟨d4, HD4⟩ : ∃ d4, Aside0 ((if b3 = true then o.d ++ opens o.s else o.d) = d4) := ⟨_, ⟨rfl⟩⟩
        obtain ⟨a4, HA4⟩ : ∃ a4, Aside0 ((if b3 = true then o.a ++ (opens o.s).map (fun _ => (i : Int)) else o.a) = a4) := ⟨_, ⟨rfl⟩⟩
        rw [HS4.out, HD4.out, HA4.out] at HO4 HON
        rw [HS4.out] at HF2
        have HO5 : Aside0 (OfI w0 w (w8.setCell ⟨go, 6, none⟩ (.slice none 0 0)) w2.heap.size gR go (updI V4 1 (.slice none 0 0)) A4 c4 ⟨⟨s4.t, []⟩, d4, a4⟩) := ⟨HO4.out.set 6 (.slice none 0 0) rfl (by rw [← updF (⟨s4, d4, a4⟩ : OS) ⟨⟨s4.t, []⟩, d4, a4⟩ 1 [] rfl (fun j hj => by unfold ofF; simp only [if_neg hj])]; exact HO4.out.wi.nil 1) HO4.out.c3⟩
        have HO6 : Aside0 (OfI w0 w ((w8.setCell ⟨go, 6, none⟩ (.slice none 0 0)).setCell ⟨go, 2, none⟩ (.int .i64 (s4.t.f2 + 1))) w2.heap.size gR go (updI V4 1 (.slice none 0 0)) A4 c4 ⟨endT s4, d4, a4⟩) := ⟨HO5.out.set 2 (.int .i64 (s4.t.f2 + 1)) rfl (by exact HO5.out.wi) HO4.out.c3⟩
        obtain ⟨A1, c1, hv1, _, _⟩ := slice_of (HO4.out.wi.own 1)
        have z6_ := (blk_cell HO4.out.blk 6).trans (rfl : _ = some (V4 1 : Value))
        rw [hv1] at z6_
        have f6_ := blk_frozen HO4.out.blk 6
        have z2_ := (blk_cell HO5.out.blk 2).trans (rfl : _ = some (.int .i64 s4.t.f2 : Value))
        have f2_ := blk_frozen HO5.out.blk 2
        have hw2_ : wrap64 (s4.t.f2 + 1) = s4.t.f2 + 1 := by have h := HOV.out.f2; rw [← HF2.out] at h; unfold wrap64; omega
        clear hv1
        go_wp2_with fail
        go_roundw
        case rel => exact ⟨i + 1, _, A4, c4, _, true, by omega, by go_num, rfl, HNN, HON, HO6⟩
        case measure => simp [intOf]; omega
    · obtain rfl : n = i := by omega
      have h1b : decide (n < n) = false := by simp
      rw [List.take_of_length_le (by rw [HLn.out]; exact Nat.le_refl _)] at HNM HOF
      obtain ⟨A1, c1, hv1, hl1, hc1⟩ := intC (HO.out.wi.own 1) rfl
      change V 1 = .slice A1 (opens o.s).length c1 at hv1
      obtain ⟨m1, HM1⟩ : ∃ m, Aside0 ((opens o.s).length = m) := ⟨_, ⟨rfl⟩⟩
      rw [HM1.out] at hv1
      have HV1 := Aside0.mk hv1
      have o6_ := (blk_cell HO.out.blk 6).trans (rfl : _ = some (V 1 : Value))
      rw [HV1.out] at o6_
      have o5_ := (blk_cell HO.out.blk 5).trans (rfl : _ = some (.int .i64 o.s.t.f5 : Value))
      have f5_ := blk_frozen HO.out.blk 5
      have HO1 : Aside0 (OfI w0 w (wr.setCell ⟨go, 5, none⟩ (.int .i64 (m1 : Int))) w2.heap.size gR go V A3 c3 ⟨⟨{ o.s.t with f5 := (m1 : Int) }, o.s.o⟩, o.d, o.a⟩) := ⟨HO.out.set 5 (.int .i64 (m1 : Int)) rfl (by exact HO.out.wi) HO.out.c3⟩
      clear hv1 hl1 hc1
      go_upto_region 27 with fail
      clear o5_ f5_ o6_ HO
      generalize wr.setCell ⟨go, 5, none⟩ (.int .i64 (m1 : Int)) = w9 at HO1 ⊢
      obtain ⟨B0, d0, hv0, _, _⟩ := intC (HO1.out.wi.own 0) rfl
      change V 0 = .slice B0 o.s.t.f4.length d0 at hv0
      obtain ⟨B2, d2, hv2, _, _⟩ := intC (HO1.out.wi.own 2) rfl
      change V 2 = .slice B2 o.d.length d2 at hv2
      obtain ⟨B3, d3, hv3, _, _⟩ := intC (HO1.out.wi.own 3) rfl
      change V 3 = .slice B3 o.a.length d3 at hv3
      have o0_ := (blk_cell HO1.out.blk 0).trans (rfl : _ = some (.int .i64 o.s.t.f0 : Value))
      have o1_ := (blk_cell HO1.out.blk 1).trans (rfl : _ = some (.int .i64 o.s.t.f1 : Value))
      have o2_ := (blk_cell HO1.out.blk 2).trans (rfl : _ = some (.int .i64 o.s.t.f2 : Value))
      have o3_ := (blk_cell HO1.out.blk 3).trans (rfl : _ = some (.slice A3 o.s.t.f3.length c3 : Value))
      have o4_ := (blk_cell HO1.out.blk 4).trans (rfl : _ = some (V 0 : Value))
      have o5_ := (blk_cell HO1.out.blk 5).trans (rfl : _ = some (.int .i64 (m1 : Int) : Value))
      have o6_ := (blk_cell HO1.out.blk 6).trans (rfl : _ = some (V 1 : Value))
      have o7_ := (blk_cell HO1.out.blk 7).trans (rfl : _ = some (V 2 : Value))
      have o8_ := (blk_cell HO1.out.blk 8).trans (rfl : _ = some (V 3 : Value))
      rw [hv0] at o4_
      rw [HV1.out] at o6_
      rw [hv2] at o7_
      rw [hv3] at o8_
      have HVS := Aside0.mk (And.intro hv0 (And.intro hv2 hv3))
      obtain ⟨w10, hst_, hblk_, hgr_⟩ := Sto.store_row (P := Try.prog) (ty := 70) (vs := #[.int .i64 o.s.t.f0, .int .i64 o.s.t.f1, .int .i64 o.s.t.f2, .slice A3 o.s.t.f3.length c3, .slice B0 o.s.t.f4.length d0, .int .i64 (m1 : Int), .slice A1 m1 c1, .slice B2 o.d.length d2, .slice B3 o.a.length d3]) HO1.out.res (by kernel_rfl) rfl rfl
      have HST := Aside0.mk hst_
      have HBK := Aside0.mk hblk_
      have HBE : Aside0 (Below w.heap.size w w10) := ⟨HO1.out.bel.grown hgr_ HO1.out.bel.size fun k hk => by injection hk with hk; rw [← hk]; exact HO1.out.hR⟩
      have HWE : Aside0 (WI w10 w.heap.size V (ofF o)) := ⟨WI.lower (WI.kept (F := ofF o) (by exact HO1.out.wi) hgr_.size fun k cs hc => blk_grown hc hgr_ fun e => by injection e with e; exact blk_types hc HO1.out.res (by decide) e) HO1.out.hb⟩
      have HC3 := Aside0.mk HO1.out.c3
      have HKE : Aside0 (o.s.t.f0 = k) := ⟨by rw [← HOF.out]; exact (OInv.of l k).key⟩
      clear hst_ hblk_ hgr_ hv0 hv2 hv3 HO1
      go_wp2_with (first | refine Sto.list_store rfl rfl 70 (.tmp 4) (.tmp 132) rfl gR _ rfl rfl HST.out ?_)
      have p0_ := (blk_cell HBK.out 0).trans (rfl : _ = some (.int .i64 o.s.t.f0 : Value))
      have p1_ := (blk_cell HBK.out 1).trans (rfl : _ = some (.int .i64 o.s.t.f1 : Value))
      have p2_ := (blk_cell HBK.out 2).trans (rfl : _ = some (.int .i64 o.s.t.f2 : Value))
      have p3_ := (blk_cell HBK.out 3).trans (rfl : _ = some (.slice A3 o.s.t.f3.length c3 : Value))
      have p4_ := (blk_cell HBK.out 4).trans (rfl : _ = some (.slice B0 o.s.t.f4.length d0 : Value))
      have p5_ := (blk_cell HBK.out 5).trans (rfl : _ = some (.int .i64 (m1 : Int) : Value))
      have p6_ := (blk_cell HBK.out 6).trans (rfl : _ = some (.slice A1 m1 c1 : Value))
      have p7_ := (blk_cell HBK.out 7).trans (rfl : _ = some (.slice B2 o.d.length d2 : Value))
      have p8_ := (blk_cell HBK.out 8).trans (rfl : _ = some (.slice B3 o.a.length d3 : Value))
      refine bodyPost_ret (v := .tuple #[.agg #[.int .i64 o.s.t.f0, .int .i64 o.s.t.f1, .int .i64 o.s.t.f2, .slice A3 o.s.t.f3.length c3, .slice B0 o.s.t.f4.length d0, .int .i64 (m1 : Int), .slice A1 m1 c1, .slice B2 o.d.length d2, .slice B3 o.a.length d3], .bool nm]) (by simp [results, Try.results25, go_sem, p0_, p1_, p2_, p3_, p4_, p5_, p6_, p7_, p8_]) rfl ?_
      unfold OfP
      rw [HOF.out, HNM.out, HM1.out]
      refine ⟨V, A3, c3, ?_, HBE.out, HWE.out, HC3.out.1, HC3.out.2⟩
      rw [HVS.out.1, HVS.out.2.1, HVS.out.2.2, HV1.out, HKE.out]
end Go.Proofs.Ytmnglonjekegcaa.Vw
