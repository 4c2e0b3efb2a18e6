/- (c16) cut.Parts, in the form of the printer's own contracts.  -/
import Derived.Test.YtlandgbhbfdekaaTpCheck
import Derived.Test.YtlandgbhbfdekaaCtPure
import Derived.Test.YtlandgbhbfdekaaCtScope
import Derived.Test.YtlandgbhbfdekaaCtEdge
import Derived.Test.YtlandgbhbfdekaaCtMap
import Derived.Deep.QuietTactic
import Derived.BigQuiet
namespace Go.Proofs.Ytlandgbhbfdekaa.Ex
open Go Go.RowKit Go.Maps Go.Proofs.Ytlandgbhbfdekaa.Mk Go.Proofs.YtlandgbhbfdekaaW.PrintWords Go.Proofs.YtlandgbhbfdekaaW.PrintLast Go.Proofs.YtlandgbhbfdekaaW.PrintMore
set_option linter.unusedVariables false
set_option linter.unusedSimpArgs false
theorem infoI3 : (Try.prog.info? 3).map (fun i => (i.zero, i.size, i.bytes)) = some (some (.int .i64 0), 1, 8) := by kernel_rfl
theorem check_at (A0 : Option Addr) (c0 n : Nat) (l : List Vx) (p : Int) (q : Int × Int) (w : World) (hn : l.length = n) (hC : Kd.C k37 w A0 n l) (hv : okV l = true) (hq : checkOf l p = q) :
    Calls Try.prog 12 #[.agg #[.slice A0 n c0, .int .i64 p]] w fun e w' => e = .returned (.tuple #[.int .i64 q.1, .int .i64 q.2]) ∧ Below w.heap.size w w' := by
  subst hn hq
  exact check_ok A0 c0 l p w hC hv
theorem iota_set {n i : Nat} (h : i < n) : (iota i ++ List.replicate (n - i) 0).set i (i : Int) = iota (i + 1) ++ List.replicate (n - (i + 1)) 0 := by
  obtain ⟨m, rfl⟩ : ∃ m, n = i + (m + 1) := ⟨n - i - 1, by omega⟩
  rw [show i + (m + 1) - i = m + 1 by omega, show i + (m + 1) - (i + 1) = m by omega, List.replicate_succ, List.set_append_right _ _ (by rw [iota_len]; exact Nat.le_refl _), iota_len, Nat.sub_self, List.set_cons_zero]
  unfold iota
  rw [List.range_succ, List.map_append]
  simp
/-- At the label: the row of the least ones, and the topology's own variable. -/
structure PJ (w w' : World) (l : List Vx) (A0 : Option Addr) (n c0 : Nat) (p : Int) (g1 gl cl : Nat) (ls : List Int) : Prop where
  b1 : w'.heap[g1]? = some (.cells #[.slice A0 n c0, .int .i64 p] 24 (0, 0))
  row : (Kd.int .i64).R 3 w' w.heap.size (fun _ => True) (.slice (some ⟨gl, 0, none⟩) n cl) ls
  below : Below w.heap.size w w'
  inv : PInv l (leastOf l) ls
  ok : (checkOf l p).2 = 0
def PPost (w : World) (l : List Vx) (p : Int) (e : Ending) (w' : World) : Prop :=
  ∃ v1 : Value, e = .returned (.tuple #[v1, .int .i64 (checkOf l p).2]) ∧ (Kd.int .i64).R 3 w' w.heap.size (fun _ => True) v1 (if (checkOf l p).2 = 0 then partsOf l else []) ∧ Below w.heap.size w w'
attribute [local go_sem] max2_int min2_int max_two min_two
set_option maxHeartbeats 4000000 in
set_option maxRecDepth 1000000 in
theorem parts_ok (A0 : Option Addr) (c0 n : Nat) (l : List Vx) (p : Int) (w : World) (hn : l.length = n) (hr0 : k37.C w A0 n l) (hc0 : n ≤ c0) (hv : okV l = true) :
    Calls Try.prog 13 #[.agg #[.slice A0 n c0, .int .i64 p]] w (PPost w l p) := by
  have HN := Aside0.mk hn
  have HC := Aside0.mk hr0
  have HCC := Aside0.mk hc0
  have HV := Aside0.mk hv
  clear hn hr0 hc0 hv
  obtain ⟨ck, HK⟩ : ∃ q, Aside0 (checkOf l p = q) := ⟨_, ⟨rfl⟩⟩
  go_enter Try.func13, Try.ntmps13
  go_wp2
  have BK1 := Aside0.mk (heap_alloc_new w (.cells #[.slice A0 n c0, .int .i64 p] 24))
  have HB := Aside0.mk (below_alloc (Below.refl w.heap.size w) (.cells #[.slice A0 n c0, .int .i64 p] 24))
  generalize w.alloc (.cells #[.slice A0 n c0, .int .i64 p] 24) = w1 at BK1 HB ⊢
  obtain ⟨g1, HG1⟩ : ∃ g, Aside0 (w.heap.size = g) := ⟨_, ⟨rfl⟩⟩
  rw [HG1.out]
  replace BK1 : Aside0 (w1.heap[g1]? = some (.cells #[.slice A0 n c0, .int .i64 p] 24 (0, 0))) := ⟨by rw [← HG1.out]; exact BK1.out⟩
  refine scope_count 0 (fun m a' w' => ∃ (gl cl : Nat) (ls : List Int) (u4 u5 u7 u8 u9 u10 u11 u12 u13 u14 u15 u16 u17 u18 u19 u20 u21 u22 u23 u24 u25 u26 u27 u28 u29 u30 u31 u32 u33 u34 u35 u36 u37 u38 u39 u40 u41 u42 u43 u44 u45 u46 u47 u48 u49 u50 u51 u52 u53 u54 u55 u56 u57 u58 u59 u60 u61 u62 u63 u64 u65 u66 u67 u68 u69 u70 u71 u72 u73 u74 u75 u76 u77 u78 u79 u80 u81 u82 u83 u84 u85 u86 u87 u88 u89 u90 u91 u92 u93 u94 u95 u96 u97 u98 u99 u100 u101 u102 u103 u104 u105 u106 u107 u108 u109 u110 u111 u112 u113 u114 u115 u116 u117 u118 u119 u120 u121 u122 u123 u124 u125 u126 u127 u128 u129 u130 u131 u132 u133 u134 u135 : Value), a' = { tmps := #[.agg #[.slice A0 n c0, .int .i64 p], .pointer (some ⟨g1, 0, none⟩), .slice none 0 0, .int .i64 0, u4, u5, .slice (some ⟨gl, 0, none⟩) n cl, u7, u8, u9, u10, u11, u12, u13, u14, u15, u16, u17, u18, u19, u20, u21, u22, u23, u24, u25, u26, u27, u28, u29, u30, u31, u32, u33, u34, u35, u36, u37, u38, u39, u40, u41, u42, u43, u44, u45, u46, u47, u48, u49, u50, u51, u52, u53, u54, u55, u56, u57, u58, u59, u60, u61, u62, u63, u64, u65, u66, u67, u68, u69, u70, u71, u72, u73, u74, u75, u76, u77, u78, u79, u80, u81, u82, u83, u84, u85, u86, u87, u88, u89, u90, u91, u92, u93, u94, u95, u96, u97, u98, u99, u100, u101, u102, u103, u104, u105, u106, u107, u108, u109, u110, u111, u112, u113, u114, u115, u116, u117, u118, u119, u120, u121, u122, u123, u124, u125, u126, u127, u128, u129, u130, u131, u132, u133, u134, u135], defers := [] } ∧ Aside0 (PJ w w' l A0 n c0 p g1 gl cl ls) ∧ Aside0 (total ls = m)) rfl ?pass ?first
  case pass =>
    clear BK1 HB
    intro m a' w' hJ
    obtain ⟨gl, hJ⟩ := hJ
    obtain ⟨cl, hJ⟩ := hJ
    obtain ⟨ls, hJ⟩ := hJ
    obtain ⟨u4, hJ⟩ := hJ
    obtain ⟨u5, hJ⟩ := hJ
    obtain ⟨u7, hJ⟩ := hJ
    obtain ⟨u8, hJ⟩ := hJ
    obtain ⟨u9, hJ⟩ := hJ
    obtain ⟨u10, hJ⟩ := hJ
    obtain ⟨u11, hJ⟩ := hJ
    obtain ⟨u12, hJ⟩ := hJ
    obtain ⟨u13, hJ⟩ := hJ
    obtain ⟨u14, hJ⟩ := hJ
    obtain ⟨u15, hJ⟩ := hJ
    obtain ⟨u16, hJ⟩ := hJ
    obtain ⟨u17, hJ⟩ := hJ
    obtain ⟨u18, hJ⟩ := hJ
    obtain ⟨u19, hJ⟩ := hJ
    obtain ⟨u20, hJ⟩ := hJ
    obtain ⟨u21, hJ⟩ := hJ
    obtain ⟨u22, hJ⟩ := hJ
    obtain ⟨u23, hJ⟩ := hJ
    obtain ⟨u24, hJ⟩ := hJ
    obtain ⟨u25, hJ⟩ := hJ
    obtain ⟨u26, hJ⟩ := hJ
    obtain ⟨u27, hJ⟩ := hJ
    obtain ⟨u28, hJ⟩ := hJ
    obtain ⟨u29, hJ⟩ := hJ
    obtain ⟨u30, hJ⟩ := hJ
    obtain ⟨u31, hJ⟩ := hJ
    obtain ⟨u32, hJ⟩ := hJ
    obtain ⟨u33, hJ⟩ := hJ
    obtain ⟨u34, hJ⟩ := hJ
    obtain ⟨u35, hJ⟩ := hJ
    obtain ⟨u36, hJ⟩ := hJ
    obtain ⟨u37, hJ⟩ := hJ
    obtain ⟨u38, hJ⟩ := hJ
    obtain ⟨u39, hJ⟩ := hJ
    obtain ⟨u40, hJ⟩ := hJ
    obtain ⟨u41, hJ⟩ := hJ
    obtain ⟨u42, hJ⟩ := hJ
    obtain ⟨u43, hJ⟩ := hJ
    obtain ⟨u44, hJ⟩ := hJ
    obtain ⟨u45, hJ⟩ := hJ
    obtain ⟨u46, hJ⟩ := hJ
    obtain ⟨u47, hJ⟩ := hJ
    obtain ⟨u48, hJ⟩ := hJ
    obtain ⟨u49, hJ⟩ := hJ
    obtain ⟨u50, hJ⟩ := hJ
    obtain ⟨u51, hJ⟩ := hJ
    obtain ⟨u52, hJ⟩ := hJ
    obtain ⟨u53, hJ⟩ := hJ
    obtain ⟨u54, hJ⟩ := hJ
    obtain ⟨u55, hJ⟩ := hJ
    obtain ⟨u56, hJ⟩ := hJ
    obtain ⟨u57, hJ⟩ := hJ
    obtain ⟨u58, hJ⟩ := hJ
    obtain ⟨u59, hJ⟩ := hJ
    obtain ⟨u60, hJ⟩ := hJ
    obtain ⟨u61, hJ⟩ := hJ
    obtain ⟨u62, hJ⟩ := hJ
    obtain ⟨u63, hJ⟩ := hJ
    obtain ⟨u64, hJ⟩ := hJ
    obtain ⟨u65, hJ⟩ := hJ
    obtain ⟨u66, hJ⟩ := hJ
    obtain ⟨u67, hJ⟩ := hJ
    obtain ⟨u68, hJ⟩ := hJ
    obtain ⟨u69, hJ⟩ := hJ
    obtain ⟨u70, hJ⟩ := hJ
    obtain ⟨u71, hJ⟩ := hJ
    obtain ⟨u72, hJ⟩ := hJ
    obtain ⟨u73, hJ⟩ := hJ
    obtain ⟨u74, hJ⟩ := hJ
    obtain ⟨u75, hJ⟩ := hJ
    obtain ⟨u76, hJ⟩ := hJ
    obtain ⟨u77, hJ⟩ := hJ
    obtain ⟨u78, hJ⟩ := hJ
    obtain ⟨u79, hJ⟩ := hJ
    obtain ⟨u80, hJ⟩ := hJ
    obtain ⟨u81, hJ⟩ := hJ
    obtain ⟨u82, hJ⟩ := hJ
    obtain ⟨u83, hJ⟩ := hJ
    obtain ⟨u84, hJ⟩ := hJ
    obtain ⟨u85, hJ⟩ := hJ
    obtain ⟨u86, hJ⟩ := hJ
    obtain ⟨u87, hJ⟩ := hJ
    obtain ⟨u88, hJ⟩ := hJ
    obtain ⟨u89, hJ⟩ := hJ
    obtain ⟨u90, hJ⟩ := hJ
    obtain ⟨u91, hJ⟩ := hJ
    obtain ⟨u92, hJ⟩ := hJ
    obtain ⟨u93, hJ⟩ := hJ
    obtain ⟨u94, hJ⟩ := hJ
    obtain ⟨u95, hJ⟩ := hJ
    obtain ⟨u96, hJ⟩ := hJ
    obtain ⟨u97, hJ⟩ := hJ
    obtain ⟨u98, hJ⟩ := hJ
    obtain ⟨u99, hJ⟩ := hJ
    obtain ⟨u100, hJ⟩ := hJ
    obtain ⟨u101, hJ⟩ := hJ
    obtain ⟨u102, hJ⟩ := hJ
    obtain ⟨u103, hJ⟩ := hJ
    obtain ⟨u104, hJ⟩ := hJ
    obtain ⟨u105, hJ⟩ := hJ
    obtain ⟨u106, hJ⟩ := hJ
    obtain ⟨u107, hJ⟩ := hJ
    obtain ⟨u108, hJ⟩ := hJ
    obtain ⟨u109, hJ⟩ := hJ
    obtain ⟨u110, hJ⟩ := hJ
    obtain ⟨u111, hJ⟩ := hJ
    obtain ⟨u112, hJ⟩ := hJ
    obtain ⟨u113, hJ⟩ := hJ
    obtain ⟨u114, hJ⟩ := hJ
    obtain ⟨u115, hJ⟩ := hJ
    obtain ⟨u116, hJ⟩ := hJ
    obtain ⟨u117, hJ⟩ := hJ
    obtain ⟨u118, hJ⟩ := hJ
    obtain ⟨u119, hJ⟩ := hJ
    obtain ⟨u120, hJ⟩ := hJ
    obtain ⟨u121, hJ⟩ := hJ
    obtain ⟨u122, hJ⟩ := hJ
    obtain ⟨u123, hJ⟩ := hJ
    obtain ⟨u124, hJ⟩ := hJ
    obtain ⟨u125, hJ⟩ := hJ
    obtain ⟨u126, hJ⟩ := hJ
    obtain ⟨u127, hJ⟩ := hJ
    obtain ⟨u128, hJ⟩ := hJ
    obtain ⟨u129, hJ⟩ := hJ
    obtain ⟨u130, hJ⟩ := hJ
    obtain ⟨u131, hJ⟩ := hJ
    obtain ⟨u132, hJ⟩ := hJ
    obtain ⟨u133, hJ⟩ := hJ
    obtain ⟨u134, hJ⟩ := hJ
    obtain ⟨u135, hJ⟩ := hJ
    obtain ⟨hA, HJ, HM⟩ := hJ
    subst hA
    have HIR := Aside0.mk (check_inr HJ.out.ok)
    have hpos : 0 < n := by have := HIR.out.2.1; rw [HN.out] at this; exact this
    have h24 : n ≤ 24 := by have := HIR.out.2.2; rw [HN.out] at this; exact this
    have HLS : Aside0 (ls.length = n) := ⟨HJ.out.inv.len.trans HN.out⟩
    have HCL : Aside0 (Kd.C k37 w A0 l.length l) := ⟨by rw [HN.out]; exact HC.out⟩
    obtain ⟨ad, hA⟩ : ∃ ad, A0 = some ad := by
      obtain ⟨ad, _, _, _, _, e, _⟩ := at_T37 HCL.out 0 (by omega) (by have := HIR.out.2.1; omega)
      exact ⟨ad, e⟩
    subst hA
    have c0_ := (blk_cell HJ.out.b1 0).trans (rfl : _ = some (.slice (some ad) n c0 : Value))
    go_wp2_with fail
    go_loopw [46] (fun v46 wr => ∃ i : Nat, i ≤ n ∧ v46 = .int .i64 (i : Int) ∧ Aside0 (wr.heap[g1]? = some (.cells #[.slice (some ad) n c0, .int .i64 p] 24 (0, 0))) ∧ Aside0 ((Kd.int .i64).R 3 wr w.heap.size (fun _ => True) (.slice (some ⟨gl, 0, none⟩) n cl) ls) ∧ Aside0 (Below w.heap.size w wr) ∧ Aside0 ((edgesTo l i).find? (hitB l ls) = none)) (fun v46 _ => n - (intOf v46).toNat)
    case atStart => exact ⟨0, by omega, rfl, ⟨HJ.out.b1⟩, ⟨HJ.out.row⟩, ⟨HJ.out.below⟩, ⟨by rw [edgesTo_zero]; rfl⟩⟩
    case round =>
      clear c0_
      obtain ⟨i, hi, rfl, BK1, HR, HB, HF⟩ := hrel
      by_cases hlt : i < n
      · have h3 : decide ((i : Int) < (n : Int)) = true := by simp; omega
        have h3b : decide (i < n) = true := by simp; omega
        obtain ⟨ad2, A1, c1, A4, c4, hA2, x0, x1, x2, x3, x4, x5, l1, r1, l4, r4⟩ := at_T37 HCL.out (i : Int) (by omega) (by have := HN.out; omega)
        injection hA2 with hA2
        subst hA2
        obtain ⟨v, HVV⟩ : ∃ v, Aside0 (rd_T37 l (i : Int) = v) := ⟨_, ⟨rfl⟩⟩
        rw [HVV.out] at x0 x1 x2 x3 x4 x5 l1 r1 l4 r4
        simp only [Int.toNat_natCast] at x0 x1 x2 x3 x4 x5
        replace x0 := pw_cell_below HB.out x0
        replace x1 := pw_cell_below HB.out x1
        replace x2 := pw_cell_below HB.out x2
        replace x3 := pw_cell_below HB.out x3
        replace x4 := pw_cell_below HB.out x4
        replace x5 := pw_cell_below HB.out x5

        have R1 := Aside0.mk r1
        clear l1 r1 l4 r4
        go_upto_region 13 with fail
        have B9 := Aside0.mk (blk_new wr (.cells #[.int .i64 v.f0, .slice A1 v.f1.length c1, .int .i64 v.f2.f0, .int .i64 v.f2.f1, .slice A4 v.f2.f2.length c4, .int .i64 v.f3] 37))
        have hb_ := below_alloc (Below.refl wr.heap.size wr) (.cells #[.int .i64 v.f0, .slice A1 v.f1.length c1, .int .i64 v.f2.f0, .int .i64 v.f2.f1, .slice A4 v.f2.f2.length c4, .int .i64 v.f3] 37)
        replace BK1 := Aside0.mk (blk_below BK1.out hb_)
        replace HR := Aside0.mk (Kd.R_below HR.out hb_)
        replace HB := Aside0.mk (below_step HB.out hb_)
        clear x0 x1 x2 x3 x4 x5 h3 h3b hb_
        generalize wr.alloc (.cells #[.int .i64 v.f0, .slice A1 v.f1.length c1, .int .i64 v.f2.f0, .int .i64 v.f2.f1, .slice A4 v.f2.f2.length c4, .int .i64 v.f3] 37) = w9 at B9 BK1 HR HB ⊢
        obtain ⟨g9, HG9⟩ : ∃ g, Aside0 (wr.heap.size = g) := ⟨_, ⟨rfl⟩⟩
        rw [HG9.out] at B9 ⊢
        clear HG9 wr
        have y1_ := (blk_cell B9.out 1).trans (rfl : _ = some (.slice A1 v.f1.length c1 : Value))
        go_wp2_with fail
        clear y1_ B9
        have HLI : i < l.length := by have := HN.out; omega
        have HVE : Aside0 (l[i]'HLI = v) := ⟨by rw [← HVV.out]; unfold rd_T37; rw [Int.toNat_natCast, List.getD_eq_getElem?_getD, List.getElem?_eq_getElem HLI]; rfl⟩
        go_loopw [54] (fun v54 wr => ∃ k : Nat, k ≤ v.f1.length ∧ v54 = .int .i64 (k : Int) ∧ Aside0 (wr.heap[g1]? = some (.cells #[.slice (some ad) n c0, .int .i64 p] 24 (0, 0))) ∧ Aside0 ((Kd.int .i64).R 3 wr w.heap.size (fun _ => True) (.slice (some ⟨gl, 0, none⟩) n cl) ls) ∧ Aside0 (Below w.heap.size w wr) ∧ Aside0 (noHit l ls i k v.f1)) (fun v54 _ => v.f1.length - (intOf v54).toNat)
        case atStart => exact ⟨0, by omega, rfl, BK1, HR, HB, ⟨⟨HF.out, fun j hj => absurd hj (by omega)⟩⟩⟩
        case round =>
          clear BK1 HR HB HF
          obtain ⟨k, hk, rfl, BK1, HR, HB, HF⟩ := hrel
          by_cases hkl : k < v.f1.length
          · have h4 : decide ((k : Int) < (v.f1.length : Int)) = true := by simp; omega
            have h4b : decide (k < v.f1.length) = true := by simp; omega
            have hm1 : v.f1.length ≤ 9223372036854775807 := R1.out.2.1
            obtain ⟨a1, hA1, y0⟩ := Kd.at_int (Kd.C_below R1.out HB.out) (k : Int) (by omega) (by omega)
            obtain ⟨x, HX⟩ : ∃ x, Aside0 (rd v.f1 (k : Int) = x) := ⟨_, ⟨rfl⟩⟩
            rw [HX.out] at y0
            simp only [Int.toNat_natCast] at y0
            subst hA1
            have HXR : Aside0 (0 ≤ x ∧ x < (n : Int)) := ⟨by
              have := HIR.out.1 (i, x) (edge_mem HLI (by rw [HVE.out]; exact hkl) (by rw [HVE.out, ← HX.out]; unfold rd; rw [Int.toNat_natCast]))
              have h5 := HN.out
              simp only at this
              omega⟩
            have x0_ := HXR.out.1
            have x1_ := HXR.out.2
            have x1b_ : decide (x < (n : Int)) = true := by simpa using x1_
            have x0b_ : decide (0 ≤ x) = true := by simpa using x0_
            obtain ⟨hx_, fx_⟩ := Kd.R_celln 0 HR.out (i : Int) (by omega) (by omega)
            obtain ⟨hy_, fy_⟩ := Kd.R_celln 0 HR.out x x0_ x1_
            rw [Int.toNat_natCast] at hx_
            obtain ⟨a, HA⟩ : ∃ a, Aside0 (rdOf 0 ls (i : Int) = a) := ⟨_, ⟨rfl⟩⟩
            obtain ⟨b, HBV⟩ : ∃ b, Aside0 (rdOf 0 ls x = b) := ⟨_, ⟨rfl⟩⟩
            rw [HA.out] at hx_
            rw [HBV.out] at hy_
            go_upto_region 16 with fail
            go_quiet (fail)
            have hb_ : Below wr.heap.size wr (wr.drewN nq) := pw_below_drewN (Below.refl wr.heap.size wr) nq
            replace BK1 := Aside0.mk (blk_below BK1.out hb_)
            replace HR := Aside0.mk (Kd.R_below HR.out hb_)
            replace HB := Aside0.mk (below_step HB.out hb_)
            generalize wr.drewN nq = wq at BK1 HR HB ⊢
            clear hb_ hx_ hy_ fx_ fy_ y0 h4 h4b wr
            obtain ⟨ad3, _, _, _, _, hA3, z0, _⟩ := at_T37 HCL.out x x0_ (by have := HN.out; omega)
            injection hA3 with hA3
            subst hA3
            replace z0 := pw_cell_below HB.out z0
            obtain ⟨kf, HKF⟩ : ∃ kf, Aside0 ((vAt l x).f0 = kf) := ⟨_, ⟨rfl⟩⟩
            rw [show (rd_T37 l x).f0 = kf from HKF.out] at z0
            have c0_ := (blk_cell BK1.out 0).trans (rfl : _ = some (.slice (some ad) n c0 : Value))
            by_cases h5 : kf = 5
            · have h5b : (kf == 5) = true := by simpa using h5
              have HF2 := Aside0.mk (HF.out.next HX.out (hit_five HKF.out h5))
              clear h5
              go_wp2_with fail
              go_roundw
              case rel => exact ⟨k + 1, by omega, by go_num, BK1, HR, HB, HF2⟩
              case measure => simp [intOf]; omega
            have h5b : (kf == 5) = false := by simpa using h5
            by_cases hab : a = b
            · have habb : (a == b) = true := by simpa using hab
              have HF2 := Aside0.mk (HF.out.next HX.out (hit_same HA.out HBV.out hab))
              clear h5 hab
              go_wp2_with fail
              go_roundw
              case rel => exact ⟨k + 1, by omega, by go_num, BK1, HR, HB, HF2⟩
              case measure => simp [intOf]; omega
            have habb : (a == b) = false := by simpa using hab
            have HHIT := Aside0.mk (hit_true (l := l) (ls := ls) (i := i) HKF.out h5 HA.out HBV.out hab)
            clear h5 hab
            go_upto_region 18 with fail
            clear h5b habb z0 c0_ x0_ x1_ x1b_ x0b_
            go_wp2_with fail
            obtain ⟨mx, HMX⟩ : ∃ m, Aside0 ((if a < b then b else a) = m) := ⟨_, ⟨rfl⟩⟩
            obtain ⟨mn, HMN⟩ : ∃ m, Aside0 ((if b < a then b else a) = m) := ⟨_, ⟨rfl⟩⟩
            have HTU : Aside0 (∀ y, turn a b y = if y = mx then mn else y) := ⟨fun y => by
              have h1 := HMX.out
              have h2 := HMN.out
              unfold turn
              rw [show max a b = mx by rw [← h1]; split <;> omega, show min a b = mn by rw [← h2]; split <;> omega]⟩
            go_loopw [80] (fun v80 wr => ∃ j : Nat, j ≤ n ∧ v80 = .int .i64 (j : Int) ∧ Aside0 (wr.heap[g1]? = some (.cells #[.slice (some ad) n c0, .int .i64 p] 24 (0, 0))) ∧ Aside0 ((Kd.int .i64).R 3 wr w.heap.size (fun _ => True) (.slice (some ⟨gl, 0, none⟩) n cl) (half (turn a b) j ls)) ∧ Aside0 (Below w.heap.size w wr)) (fun v80 _ => n - (intOf v80).toNat)
            case atStart => exact ⟨0, by omega, rfl, BK1, ⟨by rw [half_zero]; exact HR.out⟩, HB⟩
            case round =>
              clear BK1 HR HB
              obtain ⟨j, hj, rfl, BK1, HR, HB⟩ := hrel
              by_cases hjl : j < n
              · have h6 : decide ((j : Int) < (n : Int)) = true := by simp; omega
                have h6b : decide (j < n) = true := by simp; omega
                have HJL : Aside0 (j < ls.length) := ⟨by have := HLS.out; omega⟩
                obtain ⟨hx_, hf_⟩ := Kd.R_celln 0 HR.out (j : Int) (by omega) (by omega)
                have HPG := Aside0.mk (Kd.R_putg HR.out (j : Int) mn)
                rw [Int.toNat_natCast] at hx_ hf_ HPG
                obtain ⟨y, HY⟩ : ∃ y, Aside0 (ls.getD j 0 = y) := ⟨_, ⟨rfl⟩⟩
                rw [show rdOf 0 (half (turn a b) j ls) (j : Int) = y by unfold rdOf; rw [Int.toNat_natCast, half_get _ HJL.out]; exact HY.out] at hx_
                have hmx := HMX.out
                by_cases hym : y = mx
                · have hymb : (y == mx) = true := by simpa using hym
                  have HS := Aside0.mk (half_set (turn a b) HJL.out (y := mn) (by rw [HY.out, HTU.out, if_pos hym]))
                  clear hym
                  have hmn := HMN.out
                  go_wp2_with fail
                  have hg_ := HPG.out.2
                  have HNE := Aside0.mk (Kd.R_ne HR.out BK1.out (by decide))
                  have HGL : Aside0 (w.heap.size ≤ gl) := ⟨Kd.R_base HR.out gl rfl⟩
                  go_roundw
                  case rel => exact ⟨j + 1, by omega, by go_num, ⟨blk_grown BK1.out hg_ HNE.out⟩, ⟨by rw [← HS.out]; exact HPG.out.1⟩, ⟨HB.out.grown hg_ (below_size HB.out) (fun k hk => by cases hk; exact HGL.out)⟩⟩
                  case measure => simp [intOf]; omega
                · have hymb : (y == mx) = false := by simpa using hym
                  have HS := Aside0.mk (half_same (turn a b) HJL.out (by rw [HY.out, HTU.out, if_neg hym]))
                  clear hym
                  go_wp2_with fail
                  go_roundw
                  case rel => exact ⟨j + 1, by omega, by go_num, BK1, ⟨by rw [← HS.out]; exact HR.out⟩, HB⟩
                  case measure => simp [intOf]; omega
              · obtain rfl : n = j := by omega
                have h6 : decide ((n : Int) < (n : Int)) = false := by simp
                rw [half_all _ HLS.out, ← mergeL_turn] at HR
                have HFIND : Aside0 ((edges l).find? (hitB l ls) = some (i, x)) := ⟨by
                  have h1 := HF.out
                  rw [← HVE.out] at h1
                  have h2 : (l[i]).f1.getD k 0 = x := by rw [HVE.out, ← HX.out]; unfold rd; rw [Int.toNat_natCast]
                  have h3 := noHit.hit HLI h1 (by rw [HVE.out]; exact hkl) (by rw [h2]; exact HHIT.out)
                  rw [h2] at h3
                  exact h3⟩
                have HST := Aside0.mk (HJ.out.inv.step HIR.out.1 HFIND.out)
                have HLT := Aside0.mk (hit_lt HJ.out.inv HIR.out.1 HFIND.out)
                rw [show rd ls (((i, x) : Nat × Int).1 : Int) = a from HA.out, show rd ls ((i, x) : Nat × Int).2 = b from HBV.out] at HST HLT
                have HJ2 : Aside0 (PJ w wr l (some ad) n c0 p g1 gl cl (mergeL a b ls)) := ⟨⟨BK1.out, HR.out, HB.out, HST.out, HJ.out.ok⟩⟩
                have HLT2 : Aside0 (total (mergeL a b ls) < m) := ⟨by rw [← HM.out]; exact HLT.out⟩
                go_wp2_with fail
                refine wp_goto ?_
                refine ⟨rfl, total (mergeL a b ls), HLT2.out, gl, cl, mergeL a b ls, _, _, _, _, _, _, _, _, _, _, _, _, _, _, _, _, _, _, _, _, _, _, _, _, _, _, _, _, _, _, _, _, _, _, _, _, _, _, _, _, _, _, _, _, _, _, _, _, _, _, _, _, _, _, _, _, _, _, _, _, _, _, _, _, _, _, _, _, _, _, _, _, _, _, _, _, _, _, _, _, _, _, _, _, _, _, _, _, _, _, _, _, _, _, _, _, _, _, _, _, _, _, _, _, _, _, _, _, _, _, _, _, _, _, _, _, _, _, _, _, _, _, _, _, _, _, _, _, _, _, _, rfl, HJ2, ⟨rfl⟩⟩
          · obtain rfl : v.f1.length = k := by omega
            have h4 : decide ((v.f1.length : Int) < (v.f1.length : Int)) = false := by simp
            have HF2 : Aside0 ((edgesTo l (i + 1)).find? (hitB l ls) = none) := ⟨by
              have h1 := HF.out
              rw [← HVE.out] at h1
              exact noHit.round HLI h1⟩
            go_wp2_with fail
            go_roundw
            case rel => exact ⟨i + 1, by omega, by go_num, BK1, HR, HB, HF2⟩
            case measure => simp [intOf]; omega
      · obtain rfl : n = i := by omega
        have h3 : decide ((n : Int) < (n : Int)) = false := by simp
        have HFI := Aside0.mk (HJ.out.inv.done (by rw [← edgesTo_all, HN.out]; exact HF.out))
        go_upto_region 26 with fail
        clear BK1 HF h3
        have hmk_ : (Instr.makeMap 56 none).run Try.prog wr = .ok (.map (some wr.heap.size)) (wr.alloc (.map #[] 0)) := run_makeMap _ _
        go_upto_region 27 with fail
        clear hmk_
        have HMI := Aside0.mk (MapI.new wr)
        have hb_ := below_alloc (Below.refl wr.heap.size wr) (.map #[] 0)
        have HGB : Aside0 (gl < wr.heap.size) := ⟨((Kd.R_bound HR.out).1 gl rfl).2.2.1⟩
        have HGL : Aside0 (w.heap.size ≤ gl) := ⟨Kd.R_base HR.out gl rfl⟩
        have HBW := Aside0.mk (below_size HB.out)
        replace HR := Aside0.mk (Kd.R_below HR.out hb_)
        replace HB := Aside0.mk (below_step HB.out hb_)
        clear hb_
        generalize wr.alloc (.map #[] 0) = wm at HMI HR HB ⊢
        obtain ⟨bm, HBM⟩ : ∃ g, Aside0 (wr.heap.size = g) := ⟨_, ⟨rfl⟩⟩
        rw [HBM.out] at HMI HGB HBW ⊢
        clear HBM wr
        go_wp2_with fail
        go_loopw [103] (fun v103 wr => ∃ i : Nat, i ≤ n ∧ v103 = .int .i64 (i : Int) ∧ Aside0 (MapI wr bm (numGo [] (ls.take i))) ∧ Aside0 ((Kd.int .i64).R 3 wr w.heap.size (fun _ => True) (.slice (some ⟨gl, 0, none⟩) n cl) ls) ∧ Aside0 (Below w.heap.size w wr)) (fun v103 _ => n - (intOf v103).toNat)
        case atStart => exact ⟨0, by omega, rfl, HMI, HR, HB⟩
        case round =>
          clear HMI HR HB
          obtain ⟨i, hi, rfl, HMI, HR, HB⟩ := hrel
          by_cases hlt : i < n
          · have h3 : decide ((i : Int) < (n : Int)) = true := by simp; omega
            have h3b : decide (i < n) = true := by simp; omega
            obtain ⟨L, HL⟩ : ∃ L, Aside0 (numGo [] (ls.take i) = L) := ⟨_, ⟨rfl⟩⟩
            rw [HL.out] at HMI
            have HIL : Aside0 (i < ls.length) := ⟨by have := HLS.out; omega⟩
            have HLL : Aside0 (L.length ≤ 24) := ⟨by
              have h1 := numGo_len (ls.take i) []
              rw [HL.out, List.length_nil, List.length_take] at h1
              omega⟩
            obtain ⟨hx_, fx_⟩ := Kd.R_celln 0 HR.out (i : Int) (by omega) (by omega)
            rw [Int.toNat_natCast] at hx_
            obtain ⟨x, HX⟩ : ∃ x, Aside0 (ls.getD i 0 = x) := ⟨_, ⟨rfl⟩⟩
            rw [show rdOf 0 ls (i : Int) = x by unfold rdOf; rw [Int.toNat_natCast]; exact HX.out] at hx_
            have HXR : Aside0 (0 ≤ x ∧ x ≤ 1000) := ⟨by
              have hm : x ∈ ls := by rw [← HX.out, List.getD_eq_getElem?_getD, List.getElem?_eq_getElem HIL.out]; exact List.getElem_mem _
              have h1 := HJ.out.inv.pos x hm
              have h2 := HJ.out.inv.top x hm
              have h3 := HN.out
              omega⟩
            obtain ⟨D, ho, hv⟩ := HMI.out
            have hkey := keyOf_int_mk (P := Try.prog) (k := 3) (q := .i64) Try.underlying3 (wfI HXR.out.1 HXR.out.2)
            have HO := Aside0.mk ho
            have HV := Aside0.mk hv
            have hhas := hv.has x
            have hat := Aside0.mk (hv.at_ x)
            clear ho hv HMI
            cases hl : lk L x with
            | none =>
              rw [hl] at hhas
              simp only [Option.isSome_none] at hhas
              have HNL := Aside0.mk (numGo_new HL.out HIL.out HX.out hl)
              have HLK := Aside0.mk hl
              clear hl hat
              have hval := plainElem_int (H := Unit) (P := Try.prog) (e := 3) (q := .i64) Try.underlying3 (wfI (a := (Maps.size D : Int)) (by omega) (by have := HV.out.size; have := HLL.out; omega))
              go_wp2_with (first | (at_lookup; refine wpList_lookup_own_ok_int _ rfl _ _ _ rfl 3 3 .i64 KI Try.underlying56 Try.underlying3 (zeroI _) bm _ D rfl HO.out _ _ rfl hkey ?_; intro c hc hwc) | (at_len; refine wpList_len_own _ rfl _ _ rfl 3 3 Try.underlying56 _ bm _ D rfl HO.out ?_) | (at_mapUpdate; refine wpList_mapUpdate_own _ rfl _ _ _ _ rfl 3 3 KI Try.underlying56 _ bm _ D rfl HO.out (by have := HLL.out; have : 1000 < maxLen := (by decide); omega) _ _ (.int .i64 x) rfl rfl hkey _ [] hval ?_; intro wu ho1_ hg_; have HO1 := Aside0.mk ho1_; have HG := Aside0.mk hg_; clear ho1_ hg_))
              have hg_ := HG.out
              have HPUT := Aside0.mk (MapI.put HV.out HO1.out HLK.out)
              go_roundw
              case rel => exact ⟨i + 1, by omega, by go_num, ⟨by rw [HNL.out, ← HV.out.size]; exact HPUT.out⟩, ⟨Kd.R_grown2 HR.out rfl hg_ (fun k hk he => by have h1 := HGB.out; injection hk with hk; have he2 : some k = some gl := he; injection he2 with he2; omega)⟩, ⟨HB.out.grown hg_ (below_size HB.out) (fun k hk => by cases hk; exact HBW.out)⟩⟩
              case measure => simp [intOf]; omega
            | some q =>
              rw [hl] at hhas
              simp only [Option.isSome_some] at hhas
              have HNL := Aside0.mk (numGo_old HL.out HIL.out HX.out hl)
              have HMI2 : Aside0 (MapI wr bm L) := ⟨⟨D, HO.out, HV.out⟩⟩
              clear hl hat
              go_wp2_with ((at_lookup; refine wpList_lookup_own_ok_int _ rfl _ _ _ rfl 3 3 .i64 KI Try.underlying56 Try.underlying3 (zeroI _) bm _ D rfl HO.out _ _ rfl hkey ?_; intro c hc hwc))
              go_roundw
              case rel => exact ⟨i + 1, by omega, by go_num, ⟨by rw [HNL.out]; exact HMI2.out⟩, HR, HB⟩
              case measure => simp [intOf]; omega
          · obtain rfl : n = i := by omega
            have h3 : decide ((n : Int) < (n : Int)) = false := by simp
            rw [show ls.take n = ls by rw [← HLS.out, List.take_length]] at HMI
            go_wp2_with fail
            clear h3
            go_loopw [122] (fun v122 wr => ∃ i : Nat, i ≤ n ∧ v122 = .int .i64 (i : Int) ∧ Aside0 (MapI wr bm (numGo [] ls)) ∧ Aside0 ((Kd.int .i64).R 3 wr w.heap.size (fun _ => True) (.slice (some ⟨gl, 0, none⟩) n cl) (half (fun x => (lk (numGo [] ls) x).getD 0) i ls)) ∧ Aside0 (Below w.heap.size w wr)) (fun v122 _ => n - (intOf v122).toNat)
            case atStart => exact ⟨0, by omega, rfl, HMI, ⟨by rw [half_zero]; exact HR.out⟩, HB⟩
            case round =>
              clear HMI HR HB
              obtain ⟨i, hi, rfl, HMI, HR, HB⟩ := hrel
              by_cases hlt : i < n
              · have h3 : decide ((i : Int) < (n : Int)) = true := by simp; omega
                have h3b : decide (i < n) = true := by simp; omega
                have HIL : Aside0 (i < ls.length) := ⟨by have := HLS.out; omega⟩
                obtain ⟨x, HX⟩ : ∃ x, Aside0 (ls.getD i 0 = x) := ⟨_, ⟨rfl⟩⟩
                have hm : x ∈ ls := by rw [← HX.out, List.getD_eq_getElem?_getD, List.getElem?_eq_getElem HIL.out]; exact List.getElem_mem _
                have HXR : Aside0 (0 ≤ x ∧ x ≤ 1000) := ⟨by
                  have h1 := HJ.out.inv.pos x hm
                  have h2 := HJ.out.inv.top x hm
                  have h3 := HN.out
                  omega⟩
                obtain ⟨q, hq⟩ := numGo_has ls [] hm
                have HQ := Aside0.mk hq
                obtain ⟨hx_, hf_⟩ := Kd.R_celln 0 HR.out (i : Int) (by omega) (by omega)
                have HPG := Aside0.mk (Kd.R_putg HR.out (i : Int) q)
                rw [Int.toNat_natCast] at hx_ hf_ HPG
                rw [show rdOf 0 (half (fun x => (lk (numGo [] ls) x).getD 0) i ls) (i : Int) = x by unfold rdOf; rw [Int.toNat_natCast, half_get _ HIL.out]; exact HX.out] at hx_
                have HS := Aside0.mk (half_set (fun x => (lk (numGo [] ls) x).getD 0) HIL.out (y := q) (by rw [HX.out, hq]; rfl))
                obtain ⟨D, ho, hv⟩ := HMI.out
                have hkey := keyOf_int_mk (P := Try.prog) (k := 3) (q := .i64) Try.underlying3 (wfI HXR.out.1 HXR.out.2)
                have HO := Aside0.mk ho
                have hat := Aside0.mk (hv.at_ x q hq)
                clear ho hv hq hm
                go_wp2_with ((at_lookup; refine wpList_lookup_own_int _ rfl _ _ _ rfl 3 3 .i64 KI Try.underlying56 Try.underlying3 (zeroI _) bm _ D rfl HO.out _ _ rfl hkey ?_; intro c hc hwc; rw [hat.out] at hc; injection hc with hc; injection hc with _ hc; subst hc))
                have hg_ := HPG.out.2
                go_roundw
                case rel => exact ⟨i + 1, by omega, by go_num, ⟨HMI.out.kept hg_ (by have := HGB.out; intro h; injection h with h; omega)⟩, ⟨by rw [← HS.out]; exact HPG.out.1⟩, ⟨HB.out.grown hg_ (below_size HB.out) (fun k hk => by cases hk; exact HGL.out)⟩⟩
                case measure => simp [intOf]; omega
              · obtain rfl : n = i := by omega
                have h3 : decide ((n : Int) < (n : Int)) = false := by simp
                rw [half_all _ HLS.out] at HR
                have HPO : Aside0 (ls.map (fun x => (lk (numGo [] ls) x).getD 0) = partsOf l) := ⟨by rw [HFI.out]; rfl⟩
                have HCK := Aside0.mk HJ.out.ok
                go_wp2_with fail
                simp only [Exit.jump]
                go_ret2
                exact ⟨_, by rw [HCK.out]; rfl, by rw [HCK.out, if_pos rfl, ← HPO.out]; exact HR.out, HB.out⟩
  case first =>
    intro pass
    have c0_ := (blk_cell BK1.out 0).trans (rfl : _ = some (.slice A0 n c0 : Value))
    have c1_ := (blk_cell BK1.out 1).trans (rfl : _ = some (.int .i64 p : Value))
    go_wp2_with fail
    refine (check_at A0 c0 n l p ck _ HN.out (Kd.C_below HC.out HB.out) HV.out HK.out).mono ?_
    rintro e w2 ⟨rfl, hb_⟩
    replace BK1 := Aside0.mk (blk_below BK1.out hb_)
    replace HB := Aside0.mk (below_step HB.out hb_)
    clear hb_ c0_ c1_
    obtain ⟨c1, ce⟩ := ck
    by_cases he : ce = 0
    · subst he
      have HCK : Aside0 ((checkOf l p).2 = 0) := ⟨by rw [HK.out]⟩
      have HIR := Aside0.mk (check_inr HCK.out)
      have hpos : 0 < n := by have := HIR.out.2.1; rw [HN.out] at this; exact this
      have h24 : n ≤ 24 := by have := HIR.out.2.2; rw [HN.out] at this; exact this
      have c0_ := (blk_cell BK1.out 0).trans (rfl : _ = some (.slice A0 n c0 : Value))
      go_upto_region 5 with (((with_reducible refine gate_dst (N := 32) rfl ?_); refine Kd.R_make (Kd.int .i64) _ 3 rfl (N := 32) rfl 35 _ _ rfl (n : Int) rfl rfl Try.underlying35 (.int .i64 0) 8 infoI3 rfl (by decide) (by omega) 0 (ok := fun _ => True) (okp := fun _ => True) rfl (fun _ hk => hk) trivial (by omega) (by omega) (Below.refl _ _) (Nat.le_refl _) ?_; intro v32 w32 ho_ hb hg_ hnew_; obtain ⟨gl, cl, hv_, hgb, hgl, gcs_, hgo_⟩ := Kd.R_form ho_ (by simp; omega); rw [List.length_replicate, Int.toNat_natCast] at hv_; subst hv_; have HR := Aside0.mk (Kd.R_lower ho_ HB.out.size); have BK1b := Aside0.mk (blk_below BK1.out hb); have HB2 := Aside0.mk (below_step HB.out hb); clear hb hg_ hnew_ ho_ hgb hgl hgo_))
      clear BK1 HB c0_
      rw [Int.toNat_natCast] at HR
      go_wp2_with fail
      go_loopw [35] (fun v35 wr => ∃ i : Nat, i ≤ n ∧ v35 = .int .i64 (i : Int) ∧ Aside0 (wr.heap[g1]? = some (.cells #[.slice A0 n c0, .int .i64 p] 24 (0, 0))) ∧ Aside0 ((Kd.int .i64).R 3 wr w.heap.size (fun _ => True) (.slice (some ⟨gl, 0, none⟩) n cl) (iota i ++ List.replicate (n - i) 0)) ∧ Aside0 (Below w.heap.size w wr)) (fun v35 _ => n - (intOf v35).toNat)
      case atStart => exact ⟨0, by omega, rfl, BK1b, ⟨by rw [show iota 0 = [] from rfl, List.nil_append, Nat.sub_zero]; exact HR.out⟩, HB2⟩
      case round =>
        clear BK1b HR HB2
        obtain ⟨i, hi, rfl, BK1, HR, HB⟩ := hrel
        by_cases hlt : i < n
        · have h3 : decide ((i : Int) < (n : Int)) = true := by simp; omega
          have h3b : decide (i < n) = true := by simp; omega
          obtain ⟨hx_, hf_⟩ := Kd.R_celln 0 HR.out (i : Int) (by omega) (by omega)
          have HPG := Aside0.mk (Kd.R_putg HR.out (i : Int) (i : Int))
          rw [Int.toNat_natCast] at hx_ hf_ HPG
          go_wp2
          have hg_ := HPG.out.2
          have HNE := Aside0.mk (Kd.R_ne HR.out BK1.out (by decide))
          have HGL : Aside0 (w.heap.size ≤ gl) := ⟨Kd.R_base HR.out gl rfl⟩
          go_roundw
          case rel => exact ⟨i + 1, by omega, by go_num, ⟨blk_grown BK1.out hg_ HNE.out⟩, ⟨by rw [← iota_set hlt]; exact HPG.out.1⟩, ⟨HB.out.grown hg_ (below_size HB.out) (fun k hk => by cases hk; exact HGL.out)⟩⟩
          case measure => simp [intOf]; omega
        · obtain rfl : n = i := by omega
          have h3 : decide ((n : Int) < (n : Int)) = false := by simp
          rw [Nat.sub_self, List.replicate_zero, List.append_nil] at HR
          go_wp2_with fail
          go_step3
          have HJ : Aside0 (PJ w wr l A0 n c0 p g1 gl cl (iota n)) := ⟨⟨BK1.out, HR.out, HB.out, by rw [← HN.out]; exact PInv.start (by rw [HN.out]; exact h24), HCK.out⟩⟩
          rename_i hK1
          refine hK1 _ _ (pass _ _ ?_)
          exact ⟨total (iota n), gl, cl, iota n, _, _, _, _, _, _, _, _, _, _, _, _, _, _, _, _, _, _, _, _, _, _, _, _, _, _, _, _, _, _, _, _, _, _, _, _, _, _, _, _, _, _, _, _, _, _, _, _, _, _, _, _, _, _, _, _, _, _, _, _, _, _, _, _, _, _, _, _, _, _, _, _, _, _, _, _, _, _, _, _, _, _, _, _, _, _, _, _, _, _, _, _, _, _, _, _, _, _, _, _, _, _, _, _, _, _, _, _, _, _, _, _, _, _, _, _, _, _, _, _, _, _, _, _, _, _, _, _, _, _, _, rfl, HJ, ⟨rfl⟩⟩
    · have hz : (ce != 0) = true := by simpa using he
      have HCK : Aside0 ((checkOf l p).2 = ce) := ⟨by rw [HK.out]⟩
      go_wp2
      simp only [Exit.jump]
      go_ret2
      exact ⟨_, by rw [HCK.out]; rfl, by rw [HCK.out, if_neg he]; exact Kd.R_nil _ _ _ _ _, HB.out⟩
theorem cut_Parts.calls (A0 : Option Addr) (c0 : Nat) (l0 : List Vx) (a1 : Int) (r1 : List Int) (r2 : Int) (w : World) (hr0 : Kd.C k37 w A0 l0.length l0) (hc0 : l0.length ≤ c0) (h : cut_Parts.f l0 a1 = some (r1, r2)) :
    Calls Try.prog 13 #[.agg #[.slice A0 l0.length c0, .int .i64 a1]] w fun e w' => ∃ v0_ : Value, e = .returned (.tuple #[v0_, .int .i64 r2]) ∧ Kd.R (Kd.int .i64) 3 w' w.heap.size (fun _ => True) v0_ r1 ∧ Below w.heap.size w w' := by
  unfold cut_Parts.f at h
  split at h
  · rename_i hv
    refine (parts_ok A0 c0 l0.length l0 a1 w rfl hr0 hc0 hv).mono ?_
    rintro e w' ⟨v1, rfl, h2, h3⟩
    by_cases h0 : (checkOf l0 a1).2 = 0
    · rw [if_pos h0] at h h2
      have h1 := Option.some.inj h
      injection h1 with e1 e2
      subst e1 e2
      exact ⟨v1, by rw [h0], h2, h3⟩
    · rw [if_neg h0] at h h2
      have h1 := Option.some.inj h
      injection h1 with e1 e2
      subst e1 e2
      exact ⟨v1, rfl, h2, h3⟩
  · cases h
end Go.Proofs.Ytlandgbhbfdekaa.Ex
