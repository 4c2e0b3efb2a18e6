/- (c05) A contract of pack's readers: bytes (Reader.Bytes). -/
import Derived.Test.YteanncfmaomhaaaRcIs
namespace Go.Proofs.Yteanncfmaomhaaa.Pk
open Go Go.RowKit Go.Proofs.YteanncfmaomhaaaW.PrintWords Go.Proofs.YteanncfmaomhaaaW.PrintLast Go.Proofs.YteanncfmaomhaaaW.PrintMore
set_option linter.unusedVariables false
set_option linter.unusedSimpArgs false
def BPost (b : Nat) (xs : List Int) (base : Nat) (w : World) (e : Ending) (w' : World) : Prop :=
  ∃ v, e = .returned (.tuple #[v, .int .i64 (rdB xs).2.1]) ∧ (Kd.int .u8).R 5 w' w.heap.size (fun _ => True) v (rdB xs).1 ∧ Rdr w' base b (rdB xs).2.2 ∧ w.grownBy w' (some b)
theorem BPost.bad {b : Nat} {xs : List Int} {base : Nat} {w w' : World} {e : Int} (h : rdB xs = ([], e, xs)) (h1 : Rdr w' base b xs) (h2 : w.grownBy w' (some b)) : BPost b xs base w (.returned (.tuple #[.slice none 0 0, .int .i64 e])) w' := by
  unfold BPost
  rw [h]
  exact ⟨_, rfl, Kd.R_nil _ _ _ _ _, h1, h2⟩
theorem BPost.good {b : Nat} {xs x r : List Int} {base : Nat} {w w' : World} {v : Value} (h : rdB xs = (x, 0, r)) (h0 : (Kd.int .u8).R 5 w' w.heap.size (fun _ => True) v x) (h1 : Rdr w' base b r) (h2 : w.grownBy w' (some b)) : BPost b xs base w (.returned (.tuple #[v, .int .i64 0])) w' := by
  unfold BPost
  rw [h]
  exact ⟨_, rfl, h0, h1, h2⟩
set_option maxHeartbeats 1000000 in
set_option maxRecDepth 100000 in
theorem bytes_some (b : Nat) (xs : List Int) (base : Nat) (w : World) (h : Rdr w base b xs) (hl : xs.length < 140737488355328) :
    Calls Try.prog 44 #[.pointer (some ⟨b, 0, none⟩)] w (BPost b xs base w) := by
  have HR := Aside0.mk h
  have HX := Aside0.mk (rdU_range h.byt)
  have HXL := Aside0.mk (rdU_len xs)
  have HL := Aside0.mk hl
  obtain ⟨A, c, hcell, hfz, hc, hq⟩ := h.cell
  have HQ := Aside0.mk hq
  clear h hl hq
  obtain ⟨n, hn⟩ : ∃ n, Aside0 ((rdU xs).1 = n) := ⟨_, ⟨rfl⟩⟩
  obtain ⟨e, he⟩ : ∃ n, Aside0 ((rdU xs).2.1 = n) := ⟨_, ⟨rfl⟩⟩
  obtain ⟨r, hr⟩ : ∃ n, Aside0 ((rdU xs).2.2 = n) := ⟨_, ⟨rfl⟩⟩
  rw [hn.out] at HX
  rw [hr.out] at HXL
  have hm : r.length ≤ 9223372036854775807 := by have := HXL.out; have := HL.out; omega
  go_enter Try.func44, Try.ntmps44
  by_cases h1 : e = 0
  · by_cases h2 : (r.length : Int) < n
    · have hb := Aside0.mk HX.out
      have h1b : (e == 0) = true := by simpa using h1
      have h3b : decide ((r.length : Int) < n) = true := decide_eq_true h2
      have hw : IntKind.u64.wrap (r.length : Int) = (r.length : Int) := wrap_u64 (by omega) (by omega)
      have hfin : Aside0 (rdB xs = ([], 4, xs)) := ⟨by unfold rdB; rw [he.out, if_neg (by simpa using h1), hr.out, hn.out, if_pos h2]⟩
      clear h1 h2
      go_wp2_with (first | (go_at_call 29; refine (uint_some b xs base _ HR.out).mono ?_; rintro e w1 ⟨he1, k1, k2⟩; rw [hn.out, he.out] at he1; rw [hr.out] at k1; subst he1; obtain ⟨A1, c1, hcell1, hfz1, hc1, hq1⟩ := k1.cell; have HQ1 := Aside0.mk hq1; have HR1 := Aside0.mk k1; have HG := Aside0.mk k2; clear k1 k2 hq1) | (go_at_call 31; refine (left_some b r base _ HR1.out).mono ?_; rintro e w2 ⟨rfl, rfl⟩))
      go_ret2
      exact BPost.bad hfin.out (HR1.out.set (Q_read HQ.out HR.out HG.out) HR.out.byt) (grown_trans HG.out (grown_set _ _ _))
    · have h1b : (e == 0) = true := by simpa using h1
      have h1c : (e != 0) = false := by simpa using h1
      have h3b : decide ((r.length : Int) < n) = false := decide_eq_false h2
      have hw : IntKind.u64.wrap (r.length : Int) = (r.length : Int) := wrap_u64 (by omega) (by omega)
      have hfin : Aside0 (rdB xs = (r.take n.toNat, 0, r.drop n.toNat)) := ⟨by unfold rdB; rw [he.out, if_neg (by simpa using h1), hr.out, hn.out, if_neg h2]⟩
      have n0 : 0 ≤ n := HX.out.1
      have nr : n ≤ r.length := by omega
      obtain ⟨i0, hi0, hz0⟩ := Option.map_eq_some_iff.1 infoU8
      simp only [Prod.mk.injEq] at hz0
      have HCT := Aside0.mk (fun (A : Option Addr) (c : Nat) (hc : r.length ≤ c) => cut_to (P := Try.prog) 44 5 .u64 Try.underlying44 hi0 A r.length c n n0 nr hc)
      have HCF := Aside0.mk (fun (A : Option Addr) (c : Nat) => cut_from (P := Try.prog) 44 5 .u64 Try.underlying44 hi0 1 hz0.2.1 A r.length c n n0 nr)
      clear h1 h2 hi0 hz0
      go_wp2_with (first | (go_at_call 29; refine (uint_some b xs base _ HR.out).mono ?_; rintro e w1 ⟨he1, k1, k2⟩; rw [hn.out, he.out] at he1; rw [hr.out] at k1; subst he1; obtain ⟨A1, c1, hcell1, hfz1, hc1, hq1⟩ := k1.cell; have HQ1 := Aside0.mk hq1; have HR1 := Aside0.mk k1; have HG := Aside0.mk k2; clear k1 k2 hq1; have hct := HCT.out A1 c1 hc1; have HCF1 := Aside0.mk (HCF.out A1 c1); have HB1 := Aside0.mk (Below.refl w1.heap.size w1)) | (go_at_call 31; refine (left_some b r base _ HR1.out).mono ?_; rintro e w2 ⟨rfl, rfl⟩) | ((with_reducible refine gate_dst (N := 35) rfl ?_); refine Kd.R_lit (Kd.int .u8) _ 5 ?hg (N := 35) ?hd (xs := []) (inner := []) (ok := fun _ => True) (okp := fun _ => True) ?hr ?hp (fun _ hk => hk) trivial (Below.refl _ _) (Nat.le_refl _) (by simp) ?_; (case hd => rfl); (case hg => rfl); (case hr => first | (go_simp; done) | (go_simp; rfl)); (case hp => exact (Reps.none _ _)); intro v35 w35 ho_ hb hg_ hnew_; have HO := Aside0.mk (Kd.R_lower ho_ (below_size (by repeat (first | (with_reducible first | exact HB1.out | apply below_alloc | apply pw_below_drewN | apply below_drew1) | exact HB1.out)))); have n0_ := Aside0.mk (below_step (by repeat (first | (with_reducible first | exact HB1.out | apply below_alloc | apply pw_below_drewN | apply below_drew1) | exact HB1.out)) hb); clear HB1; have HB1 := n0_; clear n0_; have hcell35 := cell_below hb hcell1; have hfz35 := fz_below hb hcell1 hfz1; clear hg_ hnew_ hb ho_) | ((with_reducible refine gate_builtin (b := .append) (xs := #[.tmp 35, .tmp 41]) rfl ?_); at_builtin; refine Kd.R_append_rows (Kd.int .u8) (w0 := w1) w1.heap.size rfl (.tmp 35) (.tmp 41) 44 5 (.int .u8 0) 1 rfl Try.underlying44 infoU8 rfl (by decide) (by omega) v35 [] (r.take n.toNat) _ _ _ (fun _ => True) (fun _ => False) rfl rfl ?aO ?aR (fun _ _ h => h) (fun _ h => h.elim) (fun _ _ => trivial) (by repeat (first | (with_reducible first | exact HB1.out | apply below_alloc | apply pw_below_drewN | apply below_drew1) | exact HB1.out)) (below_size (by repeat (first | (with_reducible first | exact HB1.out | apply below_alloc | apply pw_below_drewN | apply below_drew1) | exact HB1.out))) ?aL ?_; (case aR => exact (Kd.C_below (C_take' (Kd.Q_reads' HQ1.out).2.2 (by omega)) HB1.out)); (case aO => exact HO.out); (case aL => have := HL.out; have := HXL.out; simp; omega); intro v42 w42 ho_ hb hg hat; obtain ⟨Av42, cv42, rfl⟩ := Kd.R_slice ho_; have n0_ := Aside0.mk (ho_); have n1_ := Aside0.mk (hb); clear HO; clear HB1; have HO := n0_; have HB1 := n1_; clear n0_ n1_; have hcell42 := cell_below HB1.out hcell1; have hfz42 := fz_below HB1.out hcell1 hfz1; obtain ⟨A', HA'⟩ : ∃ A', Aside0 ((if c1 = n.toNat then A1 else A1.map (·.add (n.toNat * 1))) = A') := ⟨_, ⟨rfl⟩⟩; have hcf := HCF1.out; rw [HA'.out] at hcf; clear ho_ hb hg hat))
      have HO2 := HO.out
      rw [List.nil_append, List.length_take, Nat.min_eq_left (by omega)] at HO2
      go_ret2
      have hr42 := HR1.out.below HB1.out
      obtain ⟨_, _, v0, hb0, _⟩ := id hr42
      refine BPost.good hfin.out (Kd.R_lower (Kd.R_set HO2 hb0 (by simp [Kd.int, Kd.scalar]) 0 _) HG.out.size) (hr42.set ?_ (fun x hx => HR1.out.byt x (List.mem_of_mem_drop hx))) (grown_trans HG.out (grown_trans (grown_of_below HB1.out _) (grown_set _ _ _)))
      rw [← HA'.out]
      exact Kd.Q_drop (Kd.Q_below HQ1.out HB1.out) (by omega)
  · have h1b : (e == 0) = false := by simpa using h1
    have h1c : (e != 0) = true := by simpa using h1
    have hfin : Aside0 (rdB xs = ([], e, xs)) := ⟨by unfold rdB; rw [he.out, if_pos h1]⟩
    clear h1
    go_wp2_with (go_at_call 29; refine (uint_some b xs base _ HR.out).mono ?_; rintro e w1 ⟨he1, k1, k2⟩; rw [hn.out, he.out] at he1; rw [hr.out] at k1; subst he1; obtain ⟨A1, c1, hcell1, hfz1, hc1, hq1⟩ := k1.cell; have HQ1 := Aside0.mk hq1; have HR1 := Aside0.mk k1; have HG := Aside0.mk k2; clear k1 k2 hq1)
    go_ret2
    exact BPost.bad hfin.out (HR1.out.set (Q_read HQ.out HR.out HG.out) HR.out.byt) (grown_trans HG.out (grown_set _ _ _))
end Go.Proofs.Yteanncfmaomhaaa.Pk
