/- (c11) view.Log, view.Task. -/
import Derived.Test.YtmnglonjekegcaaVwRdA
namespace Go.Proofs.Ytmnglonjekegcaa.Vw
open Go Go.RowKit Go.Maps Go.Proofs.Ytmnglonjekegcaa.Mk Go.Proofs.Ytmnglonjekegcaa.Rp Go.Proofs.YtmnglonjekegcaaW.PrintWords Go.Proofs.YtmnglonjekegcaaW.PrintLast Go.Proofs.YtmnglonjekegcaaW.PrintMore Go.Proofs.Ytmnglonjekegcaa.Rw Go.Proofs.Ytmnglonjekegcaa.Ow Go.Proofs.Ytmnglonjekegcaa.Mono
set_option linter.unusedVariables false
set_option linter.unusedSimpArgs false
set_option maxRecDepth 100000
def getTV (L : List S41) (k : Int) : S41 := (L.find? fun l => l.f0 == k).getD ⟨k, 0, 0, [], [], 0⟩
section
variable {α : Type} {key : α → Int} {k : Int} {d : α}
theorem find_first {ls : List α} {i : Nat} {x : α} (hno : ∀ y ∈ ls.take i, key y ≠ k) (hx : ls[i]? = some x) (hk : key x = k) : (ls.find? fun l => key l == k).getD d = x := by
  obtain ⟨hi, e⟩ := List.getElem?_eq_some_iff.1 hx
  have h1 : ls = ls.take i ++ x :: ls.drop (i + 1) := by rw [← e, List.getElem_cons_drop, List.take_append_drop]
  rw [h1, List.find?_append, List.find?_eq_none.2 (fun y hy => by simpa using hno y hy)]
  simp [hk]
theorem find_none {ls : List α} (hno : ∀ y ∈ ls, key y ≠ k) : (ls.find? fun l => key l == k).getD d = d := by
  rw [List.find?_eq_none.2 (fun y hy => by simpa using hno y hy)]
  rfl
end

def logP (w : World) (ls : List S36) (k : Int) (e : Ending) (w' : World) : Prop := ∃ B1 d1 B2 d2, e = .returned (.agg #[.int .i64 (getLV ls k).f0, .slice B1 (getLV ls k).f1.length d1, .slice B2 (getLV ls k).f2.length d2]) ∧ Below w.heap.size w w' ∧ (getLV ls k).f1.length ≤ d1 ∧ Kd.C k45 w' B1 (getLV ls k).f1.length (getLV ls k).f1 ∧ (getLV ls k).f2.length ≤ d2 ∧ Kd.C Kd.bool w' B2 (getLV ls k).f2.length (getLV ls k).f2
set_option maxHeartbeats 4000000 in
theorem log_ok (A1 A2 : Option Addr) (n1 c1 n2 c2 : Nat) (z k : Int) (ls : List S36) (w : World) (hC : Kd.C k36 w A1 n1 ls) (hn : n1 ≤ 1000000) (hnc : n1 ≤ c1) : Calls Try.prog 16 #[.agg #[.slice A1 n1 c1, .slice A2 n2 c2, .int .i64 z], .int .i64 k] w (logP w ls k) := by
  have HC := Aside0.mk hC
  have HLN := Aside0.mk hC.1
  clear hC
  go_enter Try.func16, Try.ntmps16
  go_upto_region 1 with fail
  have hb1 := below_alloc (Below.refl w.heap.size w) (.cells #[.slice A1 n1 c1, .slice A2 n2 c2, .int .i64 z] 29)
  have hb2 := below_alloc hb1 (.cells #[.int .i64 0, .slice none 0 0, .slice none 0 0] 36)
  have hg1 := heap_alloc_new w (.cells #[.slice A1 n1 c1, .slice A2 n2 c2, .int .i64 z] 29)
  have hsz1 : (w.alloc (.cells #[.slice A1 n1 c1, .slice A2 n2 c2, .int .i64 z] 29)).heap.size = w.heap.size + 1 := by simp
  have hg1b := blk_below hg1 (below_alloc (Below.refl (w.alloc (.cells #[.slice A1 n1 c1, .slice A2 n2 c2, .int .i64 z] 29)).heap.size _) (.cells #[.int .i64 0, .slice none 0 0, .slice none 0 0] 36))
  have hg2 := heap_alloc_new (w.alloc (.cells #[.slice A1 n1 c1, .slice A2 n2 c2, .int .i64 z] 29)) (.cells #[.int .i64 0, .slice none 0 0, .slice none 0 0] 36)
  rw [hsz1] at hg2
  have HB := Aside0.mk hb2
  have HT := Aside0.mk hg1b
  have HRB := Aside0.mk hg2
  clear hb1 hb2 hg1 hg1b hg2 hsz1
  generalize (w.alloc (.cells #[.slice A1 n1 c1, .slice A2 n2 c2, .int .i64 z] 29)).alloc (.cells #[.int .i64 0, .slice none 0 0, .slice none 0 0] 36) = w1 at HB HT HRB ⊢
  have HGG : Aside0 (w.heap.size ≤ w.heap.size + 1) := ⟨Nat.le_succ _⟩
  generalize w.heap.size + 1 = gr at HRB HGG ⊢
  have c0_ := (blk_cell HT.out 0).trans (rfl : _ = some (.slice A1 n1 c1 : Value))
  go_wp2_with fail
  clear c0_
  go_loopw [10] (fun v10 wr => ∃ i : Nat, i ≤ n1 ∧ v10 = .int .i64 (i : Int) ∧ Aside0 (∀ x ∈ ls.take i, x.f0 ≠ k) ∧ Aside0 (Below w1.heap.size w1 wr)) (fun v10 _ => n1 - (intOf v10).toNat)
  case atStart => exact ⟨0, Nat.zero_le _, rfl, ⟨by simp⟩, ⟨Below.refl _ _⟩⟩
  case round =>
    obtain ⟨i, hi, rfl, HNO, HB2⟩ := hrel
    have HR2 := Aside0.mk (blk_below HRB.out HB2.out)
    by_cases hlt : i < n1
    · have h1 : decide ((i : Int) < (n1 : Int)) = true := by simp; omega
      have h1b : decide (i < n1) = true := by simp; omega
      obtain ⟨x, hx⟩ : ∃ x, ls[i]? = some x := ⟨_, List.getElem?_eq_getElem (by rw [HLN.out]; exact hlt)⟩
      obtain ⟨ad, B1, d1, B2, d2, rfl, hcells⟩ := at_T36 HC.out (i : Int) (Int.natCast_nonneg _) (Int.ofNat_lt.2 hlt)
      have hrd : rd_T36 ls (i : Int) = x := by
        unfold rd_T36
        rw [Int.toNat_natCast, List.getD_eq_getElem?_getD, hx]
        rfl
      rw [hrd] at hcells
      obtain ⟨x0_, x1_, x2_, l1, g1, l2, g2⟩ := hcells
      replace x0_ := pw_cell_below HB2.out (pw_cell_below HB.out x0_)
      replace x1_ := pw_cell_below HB2.out (pw_cell_below HB.out x1_)
      replace x2_ := pw_cell_below HB2.out (pw_cell_below HB.out x2_)
      rw [Int.toNat_natCast] at x0_ x1_ x2_
      have HXI := Aside0.mk hx
      have HS := Aside0.mk (⟨l1, g1, l2, g2⟩ : x.f1.length ≤ d1 ∧ Kd.C k45 w B1 x.f1.length x.f1 ∧ x.f2.length ≤ d2 ∧ Kd.C Kd.bool w B2 x.f2.length x.f2)
      clear hx hrd l1 g1 l2 g2
      go_upto_region 4 with fail
      clear x0_ x1_ x2_
      have hb3 := below_alloc (Below.refl wr.heap.size wr) (.cells #[.int .i64 x.f0, .slice B1 x.f1.length d1, .slice B2 x.f2.length d2] 36)
      have HX := Aside0.mk (heap_alloc_new wr (.cells #[.int .i64 x.f0, .slice B1 x.f1.length d1, .slice B2 x.f2.length d2] 36))
      replace HB2 := Aside0.mk (below_step HB2.out hb3)
      replace HR2 := Aside0.mk (blk_below HR2.out hb3)
      clear hb3
      generalize wr.alloc (.cells #[.int .i64 x.f0, .slice B1 x.f1.length d1, .slice B2 x.f2.length d2] 36) = wq at HX HB2 HR2 ⊢
      generalize wr.heap.size = gx at HX ⊢
      have q0_ := (blk_cell HX.out 0).trans (rfl : _ = some (.int .i64 x.f0 : Value))
      have q1_ := (blk_cell HX.out 1).trans (rfl : _ = some (.slice B1 x.f1.length d1 : Value))
      have q2_ := (blk_cell HX.out 2).trans (rfl : _ = some (.slice B2 x.f2.length d2 : Value))
      by_cases hk : x.f0 = k
      · have hkb : (x.f0 == k) = true := by simpa using hk
        have HKE := Aside0.mk hk
        clear hk
        have z0_ := (blk_cell HR2.out 0).trans (rfl : _ = some (.int .i64 0 : Value))
        have f0_ := blk_frozen HR2.out 0
        have z1_ := (blk_cell HR2.out 1).trans (rfl : _ = some (.slice none 0 0 : Value))
        have f1_ := blk_frozen HR2.out 1
        have z2_ := (blk_cell HR2.out 2).trans (rfl : _ = some (.slice none 0 0 : Value))
        have f2_ := blk_frozen HR2.out 2
        go_wp2_with fail
        have hp0 := blk_put HR2.out 0 (.int .i64 x.f0) (rfl : _ = (#[.int .i64 x.f0, .slice none 0 0, .slice none 0 0] : Array Value))
        have hp1 := blk_put hp0 1 (.slice B1 x.f1.length d1) (rfl : _ = (#[.int .i64 x.f0, .slice B1 x.f1.length d1, .slice none 0 0] : Array Value))
        have hp2 := blk_put hp1 2 (.slice B2 x.f2.length d2) (rfl : _ = (#[.int .i64 x.f0, .slice B1 x.f1.length d1, .slice B2 x.f2.length d2] : Array Value))
        have hCf := ((((Chg.refl wq fun k => k = gr)).set (p := ⟨gr, 0, none⟩) rfl (.int .i64 x.f0)).set (p := ⟨gr, 1, none⟩) rfl (.slice B1 x.f1.length d1)).set (p := ⟨gr, 2, none⟩) rfl (.slice B2 x.f2.length d2)
        have hbf := Chg.below (below_step HB.out HB2.out) hCf (below_size (below_step HB.out HB2.out)) (fun j hj => by rw [hj]; exact HGG.out)
        refine bodyPost_ret (results_cell_row rfl _ _ gr 36 #[.int .i64 x.f0, .slice B1 x.f1.length d1, .slice B2 x.f2.length d2] (0, 0) _ rfl hp2 Try.underlying36 rfl (by kernel_rfl)) rfl ?_
        have hget : getLV ls k = x := find_first HNO.out HXI.out HKE.out
        unfold logP
        rw [hget]
        exact ⟨B1, d1, B2, d2, rfl, hbf, HS.out.1, Kd.C_below HS.out.2.1 hbf, HS.out.2.2.1, Kd.C_below HS.out.2.2.2 hbf⟩
      · have hkb : (x.f0 == k) = false := by simpa using hk
        have HKE := Aside0.mk hk
        clear hk
        go_wp2_with fail
        go_roundw
        case rel =>
          refine ⟨i + 1, by omega, by go_num, ⟨fun y hy => ?_⟩, HB2⟩
          rw [List.take_add_one, HXI.out] at hy
          rcases List.mem_append.1 hy with hy | hy
          · exact HNO.out y hy
          · have hy2 : y = x := by simpa using hy
            rw [hy2]
            exact HKE.out
        case measure => simp [intOf]; omega
    · obtain rfl : n1 = i := by omega
      have h1b : decide (n1 < n1) = false := by simp
      have z0_ := (blk_cell HR2.out 0).trans (rfl : _ = some (.int .i64 0 : Value))
      have f0_ := blk_frozen HR2.out 0
      have z1_ := (blk_cell HR2.out 1).trans (rfl : _ = some (.slice none 0 0 : Value))
      have f1_ := blk_frozen HR2.out 1
      have z2_ := (blk_cell HR2.out 2).trans (rfl : _ = some (.slice none 0 0 : Value))
      have f2_ := blk_frozen HR2.out 2
      go_wp2_with fail
      have hp0 := blk_put HR2.out 0 (.int .i64 k) (rfl : _ = (#[.int .i64 k, .slice none 0 0, .slice none 0 0] : Array Value))
      have hp1 := blk_put hp0 1 (.slice none 0 0) (rfl : _ = (#[.int .i64 k, .slice none 0 0, .slice none 0 0] : Array Value))
      have hp2 := blk_put hp1 2 (.slice none 0 0) (rfl : _ = (#[.int .i64 k, .slice none 0 0, .slice none 0 0] : Array Value))
      have hCf := ((((Chg.refl wr fun k => k = gr)).set (p := ⟨gr, 0, none⟩) rfl (.int .i64 k)).set (p := ⟨gr, 1, none⟩) rfl (.slice none 0 0)).set (p := ⟨gr, 2, none⟩) rfl (.slice none 0 0)
      have hbf := Chg.below (below_step HB.out HB2.out) hCf (below_size (below_step HB.out HB2.out)) (fun j hj => by rw [hj]; exact HGG.out)
      refine bodyPost_ret (results_cell_row rfl _ _ gr 36 #[.int .i64 k, .slice none 0 0, .slice none 0 0] (0, 0) _ rfl hp2 Try.underlying36 rfl (by kernel_rfl)) rfl ?_
      have hget : getLV ls k = ⟨k, [], []⟩ := find_none (by have := HNO.out; rwa [List.take_of_length_le (by rw [HLN.out]; exact Nat.le_refl _)] at this)
      unfold logP
      rw [hget]
      exact ⟨none, 0, none, 0, rfl, hbf, Nat.zero_le _, ⟨rfl, by simp, fun h => by simp at h⟩, Nat.zero_le _, ⟨rfl, by simp, fun h => by simp at h⟩⟩


def taskvP (w : World) (ls : List S41) (k : Int) (e : Ending) (w' : World) : Prop := ∃ B3 d3 B4 d4, e = .returned (.agg #[.int .i64 (getTV ls k).f0, .int .i64 (getTV ls k).f1, .int .i64 (getTV ls k).f2, .slice B3 (getTV ls k).f3.length d3, .slice B4 (getTV ls k).f4.length d4, .int .i64 (getTV ls k).f5]) ∧ Below w.heap.size w w' ∧ (getTV ls k).f3.length ≤ d3 ∧ Kd.C (Kd.int .i64) w' B3 (getTV ls k).f3.length (getTV ls k).f3 ∧ (getTV ls k).f4.length ≤ d4 ∧ Kd.C (Kd.int .i64) w' B4 (getTV ls k).f4.length (getTV ls k).f4
set_option maxHeartbeats 4000000 in
theorem taskv_ok (A1 A2 : Option Addr) (n1 c1 n2 c2 : Nat) (z k : Int) (ls : List S41) (w : World) (hC : Kd.C k41 w A2 n2 ls) (hn : n2 ≤ 1000000) (hnc : n2 ≤ c2) : Calls Try.prog 18 #[.agg #[.slice A1 n1 c1, .slice A2 n2 c2, .int .i64 z], .int .i64 k] w (taskvP w ls k) := by
  have HC := Aside0.mk hC
  have HLN := Aside0.mk hC.1
  clear hC
  go_enter Try.func18, Try.ntmps18
  go_upto_region 1 with fail
  have hb1 := below_alloc (Below.refl w.heap.size w) (.cells #[.slice A1 n1 c1, .slice A2 n2 c2, .int .i64 z] 29)
  have hb2 := below_alloc hb1 (.cells #[.int .i64 0, .int .i64 0, .int .i64 0, .slice none 0 0, .slice none 0 0, .int .i64 0] 41)
  have hg1 := heap_alloc_new w (.cells #[.slice A1 n1 c1, .slice A2 n2 c2, .int .i64 z] 29)
  have hsz1 : (w.alloc (.cells #[.slice A1 n1 c1, .slice A2 n2 c2, .int .i64 z] 29)).heap.size = w.heap.size + 1 := by simp
  have hg1b := blk_below hg1 (below_alloc (Below.refl (w.alloc (.cells #[.slice A1 n1 c1, .slice A2 n2 c2, .int .i64 z] 29)).heap.size _) (.cells #[.int .i64 0, .int .i64 0, .int .i64 0, .slice none 0 0, .slice none 0 0, .int .i64 0] 41))
  have hg2 := heap_alloc_new (w.alloc (.cells #[.slice A1 n1 c1, .slice A2 n2 c2, .int .i64 z] 29)) (.cells #[.int .i64 0, .int .i64 0, .int .i64 0, .slice none 0 0, .slice none 0 0, .int .i64 0] 41)
  rw [hsz1] at hg2
  have HB := Aside0.mk hb2
  have HT := Aside0.mk hg1b
  have HRB := Aside0.mk hg2
  clear hb1 hb2 hg1 hg1b hg2 hsz1
  generalize (w.alloc (.cells #[.slice A1 n1 c1, .slice A2 n2 c2, .int .i64 z] 29)).alloc (.cells #[.int .i64 0, .int .i64 0, .int .i64 0, .slice none 0 0, .slice none 0 0, .int .i64 0] 41) = w1 at HB HT HRB ⊢
  have HGG : Aside0 (w.heap.size ≤ w.heap.size + 1) := ⟨Nat.le_succ _⟩
  generalize w.heap.size + 1 = gr at HRB HGG ⊢
  have c0_ := (blk_cell HT.out 1).trans (rfl : _ = some (.slice A2 n2 c2 : Value))
  go_wp2_with fail
  clear c0_
  go_loopw [10] (fun v10 wr => ∃ i : Nat, i ≤ n2 ∧ v10 = .int .i64 (i : Int) ∧ Aside0 (∀ x ∈ ls.take i, x.f0 ≠ k) ∧ Aside0 (Below w1.heap.size w1 wr)) (fun v10 _ => n2 - (intOf v10).toNat)
  case atStart => exact ⟨0, Nat.zero_le _, rfl, ⟨by simp⟩, ⟨Below.refl _ _⟩⟩
  case round =>
    obtain ⟨i, hi, rfl, HNO, HB2⟩ := hrel
    have HR2 := Aside0.mk (blk_below HRB.out HB2.out)
    by_cases hlt : i < n2
    · have h1 : decide ((i : Int) < (n2 : Int)) = true := by simp; omega
      have h1b : decide (i < n2) = true := by simp; omega
      obtain ⟨x, hx⟩ : ∃ x, ls[i]? = some x := ⟨_, List.getElem?_eq_getElem (by rw [HLN.out]; exact hlt)⟩
      obtain ⟨ad, B3, d3, B4, d4, rfl, hcells⟩ := at_T41 HC.out (i : Int) (Int.natCast_nonneg _) (Int.ofNat_lt.2 hlt)
      have hrd : rd_T41 ls (i : Int) = x := by
        unfold rd_T41
        rw [Int.toNat_natCast, List.getD_eq_getElem?_getD, hx]
        rfl
      rw [hrd] at hcells
      obtain ⟨x0_, x1_, x2_, x3_, x4_, x5_, l3, g3, l4, g4⟩ := hcells
      replace x0_ := pw_cell_below HB2.out (pw_cell_below HB.out x0_)
      replace x1_ := pw_cell_below HB2.out (pw_cell_below HB.out x1_)
      replace x2_ := pw_cell_below HB2.out (pw_cell_below HB.out x2_)
      replace x3_ := pw_cell_below HB2.out (pw_cell_below HB.out x3_)
      replace x4_ := pw_cell_below HB2.out (pw_cell_below HB.out x4_)
      replace x5_ := pw_cell_below HB2.out (pw_cell_below HB.out x5_)
      rw [Int.toNat_natCast] at x0_ x1_ x2_ x3_ x4_ x5_
      have HXI := Aside0.mk hx
      have HS := Aside0.mk (⟨l3, g3, l4, g4⟩ : x.f3.length ≤ d3 ∧ Kd.C (Kd.int .i64) w B3 x.f3.length x.f3 ∧ x.f4.length ≤ d4 ∧ Kd.C (Kd.int .i64) w B4 x.f4.length x.f4)
      clear hx hrd l3 g3 l4 g4
      go_upto_region 4 with fail
      clear x0_ x1_ x2_ x3_ x4_ x5_
      have hb3 := below_alloc (Below.refl wr.heap.size wr) (.cells #[.int .i64 x.f0, .int .i64 x.f1, .int .i64 x.f2, .slice B3 x.f3.length d3, .slice B4 x.f4.length d4, .int .i64 x.f5] 41)
      have HX := Aside0.mk (heap_alloc_new wr (.cells #[.int .i64 x.f0, .int .i64 x.f1, .int .i64 x.f2, .slice B3 x.f3.length d3, .slice B4 x.f4.length d4, .int .i64 x.f5] 41))
      replace HB2 := Aside0.mk (below_step HB2.out hb3)
      replace HR2 := Aside0.mk (blk_below HR2.out hb3)
      clear hb3
      generalize wr.alloc (.cells #[.int .i64 x.f0, .int .i64 x.f1, .int .i64 x.f2, .slice B3 x.f3.length d3, .slice B4 x.f4.length d4, .int .i64 x.f5] 41) = wq at HX HB2 HR2 ⊢
      generalize wr.heap.size = gx at HX ⊢
      have q0_ := (blk_cell HX.out 0).trans (rfl : _ = some (.int .i64 x.f0 : Value))
      have q1_ := (blk_cell HX.out 1).trans (rfl : _ = some (.int .i64 x.f1 : Value))
      have q2_ := (blk_cell HX.out 2).trans (rfl : _ = some (.int .i64 x.f2 : Value))
      have q3_ := (blk_cell HX.out 3).trans (rfl : _ = some (.slice B3 x.f3.length d3 : Value))
      have q4_ := (blk_cell HX.out 4).trans (rfl : _ = some (.slice B4 x.f4.length d4 : Value))
      have q5_ := (blk_cell HX.out 5).trans (rfl : _ = some (.int .i64 x.f5 : Value))
      by_cases hk : x.f0 = k
      · have hkb : (x.f0 == k) = true := by simpa using hk
        have HKE := Aside0.mk hk
        clear hk
        have z0_ := (blk_cell HR2.out 0).trans (rfl : _ = some (.int .i64 0 : Value))
        have f0_ := blk_frozen HR2.out 0
        have z1_ := (blk_cell HR2.out 1).trans (rfl : _ = some (.int .i64 0 : Value))
        have f1_ := blk_frozen HR2.out 1
        have z2_ := (blk_cell HR2.out 2).trans (rfl : _ = some (.int .i64 0 : Value))
        have f2_ := blk_frozen HR2.out 2
        have z3_ := (blk_cell HR2.out 3).trans (rfl : _ = some (.slice none 0 0 : Value))
        have f3_ := blk_frozen HR2.out 3
        have z4_ := (blk_cell HR2.out 4).trans (rfl : _ = some (.slice none 0 0 : Value))
        have f4_ := blk_frozen HR2.out 4
        have z5_ := (blk_cell HR2.out 5).trans (rfl : _ = some (.int .i64 0 : Value))
        have f5_ := blk_frozen HR2.out 5
        go_wp2_with fail
        have hp0 := blk_put HR2.out 0 (.int .i64 x.f0) (rfl : _ = (#[.int .i64 x.f0, .int .i64 0, .int .i64 0, .slice none 0 0, .slice none 0 0, .int .i64 0] : Array Value))
        have hp1 := blk_put hp0 1 (.int .i64 x.f1) (rfl : _ = (#[.int .i64 x.f0, .int .i64 x.f1, .int .i64 0, .slice none 0 0, .slice none 0 0, .int .i64 0] : Array Value))
        have hp2 := blk_put hp1 2 (.int .i64 x.f2) (rfl : _ = (#[.int .i64 x.f0, .int .i64 x.f1, .int .i64 x.f2, .slice none 0 0, .slice none 0 0, .int .i64 0] : Array Value))
        have hp3 := blk_put hp2 3 (.slice B3 x.f3.length d3) (rfl : _ = (#[.int .i64 x.f0, .int .i64 x.f1, .int .i64 x.f2, .slice B3 x.f3.length d3, .slice none 0 0, .int .i64 0] : Array Value))
        have hp4 := blk_put hp3 4 (.slice B4 x.f4.length d4) (rfl : _ = (#[.int .i64 x.f0, .int .i64 x.f1, .int .i64 x.f2, .slice B3 x.f3.length d3, .slice B4 x.f4.length d4, .int .i64 0] : Array Value))
        have hp5 := blk_put hp4 5 (.int .i64 x.f5) (rfl : _ = (#[.int .i64 x.f0, .int .i64 x.f1, .int .i64 x.f2, .slice B3 x.f3.length d3, .slice B4 x.f4.length d4, .int .i64 x.f5] : Array Value))
        have hCf := (((((((Chg.refl wq fun k => k = gr)).set (p := ⟨gr, 0, none⟩) rfl (.int .i64 x.f0)).set (p := ⟨gr, 1, none⟩) rfl (.int .i64 x.f1)).set (p := ⟨gr, 2, none⟩) rfl (.int .i64 x.f2)).set (p := ⟨gr, 3, none⟩) rfl (.slice B3 x.f3.length d3)).set (p := ⟨gr, 4, none⟩) rfl (.slice B4 x.f4.length d4)).set (p := ⟨gr, 5, none⟩) rfl (.int .i64 x.f5)
        have hbf := Chg.below (below_step HB.out HB2.out) hCf (below_size (below_step HB.out HB2.out)) (fun j hj => by rw [hj]; exact HGG.out)
        refine bodyPost_ret (results_cell_row rfl _ _ gr 41 #[.int .i64 x.f0, .int .i64 x.f1, .int .i64 x.f2, .slice B3 x.f3.length d3, .slice B4 x.f4.length d4, .int .i64 x.f5] (0, 0) _ rfl hp5 Try.underlying41 rfl (by kernel_rfl)) rfl ?_
        have hget : getTV ls k = x := find_first HNO.out HXI.out HKE.out
        unfold taskvP
        rw [hget]
        exact ⟨B3, d3, B4, d4, rfl, hbf, HS.out.1, Kd.C_below HS.out.2.1 hbf, HS.out.2.2.1, Kd.C_below HS.out.2.2.2 hbf⟩
      · have hkb : (x.f0 == k) = false := by simpa using hk
        have HKE := Aside0.mk hk
        clear hk
        go_wp2_with fail
        go_roundw
        case rel =>
          refine ⟨i + 1, by omega, by go_num, ⟨fun y hy => ?_⟩, HB2⟩
          rw [List.take_add_one, HXI.out] at hy
          rcases List.mem_append.1 hy with hy | hy
          · exact HNO.out y hy
          · have hy2 : y = x := by simpa using hy
            rw [hy2]
            exact HKE.out
        case measure => simp [intOf]; omega
    · obtain rfl : n2 = i := by omega
      have h1b : decide (n2 < n2) = false := by simp
      have z0_ := (blk_cell HR2.out 0).trans (rfl : _ = some (.int .i64 0 : Value))
      have f0_ := blk_frozen HR2.out 0
      have z1_ := (blk_cell HR2.out 1).trans (rfl : _ = some (.int .i64 0 : Value))
      have f1_ := blk_frozen HR2.out 1
      have z2_ := (blk_cell HR2.out 2).trans (rfl : _ = some (.int .i64 0 : Value))
      have f2_ := blk_frozen HR2.out 2
      have z3_ := (blk_cell HR2.out 3).trans (rfl : _ = some (.slice none 0 0 : Value))
      have f3_ := blk_frozen HR2.out 3
      have z4_ := (blk_cell HR2.out 4).trans (rfl : _ = some (.slice none 0 0 : Value))
      have f4_ := blk_frozen HR2.out 4
      have z5_ := (blk_cell HR2.out 5).trans (rfl : _ = some (.int .i64 0 : Value))
      have f5_ := blk_frozen HR2.out 5
      go_wp2_with fail
      have hp0 := blk_put HR2.out 0 (.int .i64 k) (rfl : _ = (#[.int .i64 k, .int .i64 0, .int .i64 0, .slice none 0 0, .slice none 0 0, .int .i64 0] : Array Value))
      have hp1 := blk_put hp0 1 (.int .i64 0) (rfl : _ = (#[.int .i64 k, .int .i64 0, .int .i64 0, .slice none 0 0, .slice none 0 0, .int .i64 0] : Array Value))
      have hp2 := blk_put hp1 2 (.int .i64 0) (rfl : _ = (#[.int .i64 k, .int .i64 0, .int .i64 0, .slice none 0 0, .slice none 0 0, .int .i64 0] : Array Value))
      have hp3 := blk_put hp2 3 (.slice none 0 0) (rfl : _ = (#[.int .i64 k, .int .i64 0, .int .i64 0, .slice none 0 0, .slice none 0 0, .int .i64 0] : Array Value))
      have hp4 := blk_put hp3 4 (.slice none 0 0) (rfl : _ = (#[.int .i64 k, .int .i64 0, .int .i64 0, .slice none 0 0, .slice none 0 0, .int .i64 0] : Array Value))
      have hp5 := blk_put hp4 5 (.int .i64 0) (rfl : _ = (#[.int .i64 k, .int .i64 0, .int .i64 0, .slice none 0 0, .slice none 0 0, .int .i64 0] : Array Value))
      have hCf := (((((((Chg.refl wr fun k => k = gr)).set (p := ⟨gr, 0, none⟩) rfl (.int .i64 k)).set (p := ⟨gr, 1, none⟩) rfl (.int .i64 0)).set (p := ⟨gr, 2, none⟩) rfl (.int .i64 0)).set (p := ⟨gr, 3, none⟩) rfl (.slice none 0 0)).set (p := ⟨gr, 4, none⟩) rfl (.slice none 0 0)).set (p := ⟨gr, 5, none⟩) rfl (.int .i64 0)
      have hbf := Chg.below (below_step HB.out HB2.out) hCf (below_size (below_step HB.out HB2.out)) (fun j hj => by rw [hj]; exact HGG.out)
      refine bodyPost_ret (results_cell_row rfl _ _ gr 41 #[.int .i64 k, .int .i64 0, .int .i64 0, .slice none 0 0, .slice none 0 0, .int .i64 0] (0, 0) _ rfl hp5 Try.underlying41 rfl (by kernel_rfl)) rfl ?_
      have hget : getTV ls k = ⟨k, 0, 0, [], [], 0⟩ := find_none (by have := HNO.out; rwa [List.take_of_length_le (by rw [HLN.out]; exact Nat.le_refl _)] at this)
      unfold taskvP
      rw [hget]
      exact ⟨none, 0, none, 0, rfl, hbf, Nat.zero_le _, ⟨rfl, by simp, fun h => by simp at h⟩, Nat.zero_le _, ⟨rfl, by simp, fun h => by simp at h⟩⟩

end Go.Proofs.Ytmnglonjekegcaa.Vw
