/- Is one of those ahead a sink? By a closure, a search. -/
import Derived.Test.YteanncfmaomhaaaTpHas
import Derived.Laws.EntriesVeiled
namespace Go.Proofs.Yteanncfmaomhaaa.Ex
open Go Go.RowKit Go.Proofs.YteanncfmaomhaaaW.PrintWords Go.Proofs.YteanncfmaomhaaaW.PrintLast Go.Proofs.YteanncfmaomhaaaW.PrintMore
set_option linter.unusedVariables false
set_option linter.unusedSimpArgs false
theorem sink_ok (l : List Vx) (A0 : Option Addr) (c0 : Nat) (p : Int) (gt : Nat) (x : Int) (w : World) (hb : w.heap[gt]? = some (.cells #[.slice A0 l.length c0, .int .i64 p] 24 (0, 0))) (hC : Kd.C k40 w A0 l.length l) (h0 : 0 ≤ x) (h1 : x < (l.length : Int)) :
    Calls Try.prog 36 #[.int .i64 x, .pointer (some ⟨gt, 0, none⟩)] w fun e w' => e = .returned (.bool (sinkB l x)) ∧ Below w.heap.size w w' := by
  have HB := Aside0.mk (Below.refl w.heap.size w)
  obtain ⟨ad, A1, c1, A4, c4, rfl, x0, _⟩ := at_T40 hC x h0 h1
  have c0_ := (blk_cell hb 0).trans (rfl : _ = some (.slice (some ad) l.length c0 : Value))
  unfold sinkB vAt
  obtain ⟨q, HQ⟩ : ∃ q, Aside0 (rd_T40 l x = q) := ⟨_, ⟨rfl⟩⟩
  rw [HQ.out] at x0 ⊢
  clear hb hC
  go_enter Try.func36, Try.ntmps36
  go_wp2
  go_ret
  exact ⟨rfl, HB.out⟩
theorem take_any (g : Int → Bool) (xs : List Int) (k : Nat) (hk : k < xs.length) : (xs.take (k + 1)).any g = ((xs.take k).any g || g (rd xs (k : Int))) := by
  rw [List.take_succ_eq_append_getElem hk, List.any_append]
  have : rd xs (k : Int) = xs[k] := by unfold rd; rw [Int.toNat_natCast, List.getD_eq_getElem?_getD, List.getElem?_eq_getElem hk]; rfl
  rw [this]
  simp
theorem rd_memI (xs : List Int) (k : Nat) (hk : k < xs.length) : rd xs (k : Int) ∈ xs := by
  have : rd xs (k : Int) = xs[k] := by unfold rd; rw [Int.toNat_natCast, List.getD_eq_getElem?_getD, List.getElem?_eq_getElem hk]; rfl
  rw [this]
  exact List.getElem_mem _
theorem any_of_take {g : Int → Bool} {xs : List Int} {k : Nat} (hk : k < xs.length) (h : g (rd xs (k : Int)) = true) : xs.any g = true := List.any_eq_true.2 ⟨_, rd_memI xs k hk, h⟩
set_option maxHeartbeats 1000000 in
theorem index_ok (l : List Vx) (A0 : Option Addr) (c0 : Nat) (p : Int) (gt : Nat) (xs : List Int) (A1 : Option Addr) (c1 : Nat) (w : World) (hb : w.heap[gt]? = some (.cells #[.slice A0 l.length c0, .int .i64 p] 24 (0, 0))) (hC : Kd.C k40 w A0 l.length l)
    (hX : Kd.C (Kd.int .i64) w A1 xs.length xs) (hx : ∀ x ∈ xs, 0 ≤ x ∧ x < (l.length : Int)) :
    Calls Try.prog 47 #[.slice A1 xs.length c1, .func (.func 36) #[] #[.pointer (some ⟨gt, 0, none⟩)]] w fun e w' => ∃ r : Int, e = .returned (.int .i64 r) ∧ decide (r ≥ 0) = xs.any (sinkB l) ∧ Below w.heap.size w w' := by
  have HB := Aside0.mk (Below.refl w.heap.size w)
  have HK := Aside0.mk hb
  have HC := Aside0.mk hC
  have HX := Aside0.mk hX
  have HI := Aside0.mk hx
  have hm : xs.length ≤ 9223372036854775807 := hX.2.1
  clear hb hC hX hx
  go_enter Try.func47, Try.ntmps47
  go_wp2_with fail
  go_loopw [8] (fun v8 wr => ∃ k : Nat, k ≤ xs.length ∧ v8 = .int .i64 (k : Int) ∧ Aside0 ((xs.take k).any (sinkB l) = false) ∧ Aside0 (Below w.heap.size w wr)) (fun v8 _ => xs.length - (intOf v8).toNat)
  case atStart => exact ⟨0, by omega, rfl, ⟨rfl⟩, HB⟩
  case round =>
    clear HB
    obtain ⟨k, hk, rfl, HA, HB⟩ := hrel
    by_cases hlt : k < xs.length
    · have h1 : decide ((k : Int) < (xs.length : Int)) = true := by simp; omega
      have h1b : decide (k < xs.length) = true := by simp; omega
      obtain ⟨ad, hA, y0⟩ := Kd.at_int (Kd.C_below HX.out HB.out) (k : Int) (by omega) (by omega)
      have HT := Aside0.mk (take_any (sinkB l) xs k hlt)
      have HXI := Aside0.mk (HI.out _ (rd_memI xs k hlt))
      have HANY := Aside0.mk (fun h => any_of_take (g := sinkB l) hlt h)
      obtain ⟨x, HXV⟩ : ∃ x, Aside0 (rd xs (k : Int) = x) := ⟨_, ⟨rfl⟩⟩
      rw [HXV.out] at y0 HT HXI HANY
      simp only [Int.toNat_natCast] at y0
      subst hA
      go_wp2_with fail
      refine (sink_ok l A0 c0 p gt x wr (blk_below HK.out HB.out) (Kd.C_below HC.out HB.out) HXI.out.1 HXI.out.2).mono ?_
      rintro e w2 ⟨rfl, hb_⟩
      replace HB := Aside0.mk (below_step HB.out hb_)
      clear hb_ y0
      obtain ⟨b, HBV⟩ : ∃ b, Aside0 (sinkB l x = b) := ⟨_, ⟨rfl⟩⟩
      rw [HBV.out] at HT HANY ⊢
      cases b with
      | true =>
        have HA3 := Aside0.mk (HANY.out rfl)
        clear HANY HT
        go_wp2_with fail
        go_ret
        exact ⟨_, rfl, by rw [HA3.out]; simp, HB.out⟩
      | false =>
        go_wp2_with fail
        go_roundw
        case rel => exact ⟨k + 1, by omega, by go_num, ⟨by rw [HT.out, HA.out]; rfl⟩, HB⟩
        case measure => simp [intOf]; omega
    · obtain rfl : k = xs.length := by omega
      have HA2 : Aside0 (xs.any (sinkB l) = false) := ⟨by have := HA.out; rwa [List.take_length] at this⟩
      clear HA hk hlt
      go_wp2_with fail
      go_ret
      exact ⟨_, rfl, by rw [HA2.out]; rfl, HB.out⟩
theorem contains_ok (l : List Vx) (A0 : Option Addr) (c0 : Nat) (p : Int) (gt : Nat) (xs : List Int) (A1 : Option Addr) (c1 : Nat) (w : World) (hb : w.heap[gt]? = some (.cells #[.slice A0 l.length c0, .int .i64 p] 24 (0, 0))) (hC : Kd.C k40 w A0 l.length l)
    (hX : Kd.C (Kd.int .i64) w A1 xs.length xs) (hx : ∀ x ∈ xs, 0 ≤ x ∧ x < (l.length : Int)) :
    Calls Try.prog 35 #[.slice A1 xs.length c1, .func (.func 36) #[] #[.pointer (some ⟨gt, 0, none⟩)]] w fun e w' => e = .returned (.bool (xs.any (sinkB l))) ∧ Below w.heap.size w w' := by
  have HC := Aside0.mk (index_ok l A0 c0 p gt xs A1 c1 w hb hC hX hx)
  clear hb hC hX hx
  obtain ⟨b, HBV⟩ : ∃ b, Aside0 (xs.any (sinkB l) = b) := ⟨_, ⟨rfl⟩⟩
  rw [HBV.out] at HC ⊢
  go_enter Try.func35, Try.ntmps35
  go_wp2_with fail
  refine HC.out.mono ?_
  rintro e w2 ⟨r, rfl, hr, hb_⟩
  have HB := Aside0.mk hb_
  clear hb_
  go_wp2_with fail
  go_ret
  exact ⟨rfl, HB.out⟩
end Go.Proofs.Yteanncfmaomhaaa.Ex
