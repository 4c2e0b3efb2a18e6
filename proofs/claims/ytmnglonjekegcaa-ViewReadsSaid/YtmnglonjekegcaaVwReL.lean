/- Texts of this claim, joined. -/
import Derived.Test.YtmnglonjekegcaaVwRr
import Derived.Test.YtmnglonjekegcaaVwRs
import Derived.Test.YtmnglonjekegcaaVwSm
import Derived.Test.YtmnglonjekegcaaOpn
import Derived.Test.YtmnglonjekegcaaRp0
namespace Go.Proofs.Ytmnglonjekegcaa.Vw
open Go Go.RowKit Go.Maps Go.Proofs.Ytmnglonjekegcaa.Mk Go.Proofs.Ytmnglonjekegcaa.Rp Go.Proofs.YtmnglonjekegcaaW.PrintWords Go.Proofs.YtmnglonjekegcaaW.PrintLast Go.Proofs.YtmnglonjekegcaaW.PrintMore Go.Proofs.Ytmnglonjekegcaa.Rw Go.Proofs.Ytmnglonjekegcaa.Ow Go.Proofs.Ytmnglonjekegcaa.Mono
set_option linter.unusedVariables false
set_option linter.unusedSimpArgs false
set_option maxRecDepth 100000
set_option maxHeartbeats 4000000 in
theorem reads_ok (A : Option Addr) (n c : Nat) (l : List S47) (w : World) (hC : Kd.C k47 w A n l) (hnc : n ≤ c) : Calls Try.prog 3 #[.slice A n c] w fun e w' => e = .returned (.bool true) ∧ Below w.heap.size w w' := by
  have HC0 := Aside0.mk (few_C hC)
  clear hC
  obtain ⟨l1, HL1⟩ : ∃ x, Aside0 (l.take 200 = x) := ⟨_, ⟨rfl⟩⟩
  rw [HL1.out] at HC0
  have HLn := Aside0.mk HC0.out.1
  go_enter Try.func3, Try.ntmps3
  go_wp2_with fail
  refine (shown_ok w).mono ?_
  rintro e_ w1 ⟨rfl, hb_⟩
  have HB := Aside0.mk hb_
  clear hb_
  go_wp2_with fail
  refine (few_ok A n c w1 hnc).mono ?_
  rintro e_ w1_ ⟨rfl, rfl⟩
  rename World => w1
  obtain ⟨n1, HN1⟩ : ∃ x, Aside0 (min n 200 = x) := ⟨_, ⟨rfl⟩⟩
  have hn1 : n1 ≤ 200 ∧ n1 ≤ c := by have := HN1.out; omega
  rw [HN1.out] at HC0 HLn ⊢
  clear hnc HN1
  go_wp2_with fail
  refine (read_ok A n1 c l1 w1 (Kd.C_below HC0.out HB.out) (by omega) hn1.2).mono ?_
  rintro e_ w2 ⟨C1, e1, C2, e2, rfl, hb_, q1_, g1_, q2_, g2_⟩
  obtain ⟨L, HL⟩ : ∃ x, Aside0 ((readV l1).f0 = x) := ⟨_, ⟨rfl⟩⟩
  obtain ⟨T, HT⟩ : ∃ x, Aside0 ((readV l1).f1 = x) := ⟨_, ⟨rfl⟩⟩
  rw [HL.out] at q1_ g1_ ⊢
  rw [HT.out] at q2_ g2_ ⊢
  rw [HLn.out]
  have HG1 := Aside0.mk (And.intro g1_ q1_)
  have HG2 := Aside0.mk (And.intro g2_ q2_)
  replace HB := Aside0.mk (below_step HB.out hb_)
  clear hb_ q1_ g1_ q2_ g2_
  go_wp2_with fail
  refine (rread_ok A n1 c l1 w2 (Kd.C_below HC0.out HB.out) (by omega) hn1.2).mono ?_
  rintro e_ w3 ⟨D1, f1, D2, f2, rfl, hb_, q1_, g1_, q2_, g2_⟩
  rw [HL.out] at q1_ g1_ ⊢
  rw [HT.out] at q2_ g2_ ⊢
  rw [HLn.out]
  replace HG1 := Aside0.mk (And.intro (Kd.C_below HG1.out.1 hb_) HG1.out.2)
  replace HG2 := Aside0.mk (And.intro (Kd.C_below HG2.out.1 hb_) HG2.out.2)
  have HH1 := Aside0.mk (And.intro g1_ q1_)
  have HH2 := Aside0.mk (And.intro g2_ q2_)
  replace HB := Aside0.mk (below_step HB.out hb_)
  clear hb_ q1_ g1_ q2_ g2_
  go_wp2_with fail
  refine (tidemillref11_Same.calls 4000000 C1 e1 L C2 e2 T (n1 : Int) D1 f1 L D2 f2 T (n1 : Int) true w3 HG1.out.1 HG1.out.2 HG2.out.1 HG2.out.2 HH1.out.1 HH1.out.2 HH2.out.1 HH2.out.2 ?_).mono ?_
  · rw [← HL.out, ← HT.out]
    exact read_same l1 (by rw [HLn.out]; omega) _
  rintro e_ w4 ⟨rfl, hb_⟩
  replace HB := Aside0.mk (below_step HB.out hb_)
  clear hb_ HG1 HG2 HH1 HH2
  go_wp2_with fail
  refine (stable_ok A n1 c l1 w4 (Kd.C_below HC0.out HB.out) (by omega) hn1.2).mono ?_
  rintro e_ w5 ⟨rfl, hb_⟩
  obtain ⟨s, HS⟩ : ∃ s, Aside0 (stableV l1 = s) := ⟨_, ⟨rfl⟩⟩
  rw [HS.out]
  replace HB := Aside0.mk (below_step HB.out hb_)
  clear hb_
  go_wp2_with fail
  refine (rstable_ok A n1 c l1 w5 (Kd.C_below HC0.out HB.out) (by omega) hn1.2).mono ?_
  rintro e_ w6 ⟨rfl, hb_⟩
  rw [HS.out]
  have hss : (s == s) = true := by simp
  go_wp2_with fail
  go_ret
  exact ⟨rfl, below_step HB.out hb_⟩
end Go.Proofs.Ytmnglonjekegcaa.Vw
namespace Go.Proofs.Ytmnglonjekegcaa.Rc
open Go Go.RowKit Go.Proofs.YtmnglonjekegcaaW.PrintWords Go.Proofs.Ytmnglonjekegcaa.Opn Go.Proofs.Ytmnglonjekegcaa.Rp
set_option linter.unusedVariables false
set_option linter.unusedSimpArgs false
def I64 (n : Int) : Prop := -9223372036854775808 ≤ n ∧ n ≤ 9223372036854775807
theorem wf_I64 {n : Int} (h : (Lit.int .i64 n).wf = true) : I64 n := by
  simp [Lit.wf, IntKind.min, IntKind.max, IntKind.bits, IntKind.signed] at h
  unfold I64
  omega
theorem mono_op {H : Type} {enc : TypeId × Value → H} {P : Program} {α : Type} {d : Kd α} {e : TypeId} {G G' : α → DataW H → Prop} (h : Opens enc P d e G) (hg : ∀ a x, G a x → G' a x) : Opens enc P d e G' := by
  intro w base sp held fuel cs x h1
  obtain ⟨a, h1, h2⟩ := h w base sp held fuel cs x h1
  exact ⟨a, h1, hg _ _ h2⟩
def recOk (r : S45) : Prop := I64 r.f0 ∧ I64 r.f1 ∧ I64 r.f2
theorem opens_R {H : Type} {enc : TypeId × Value → H} : Opens enc Try.prog k45 45 (fun r _ => recOk r) := by
  have h := opens_iso (enc := enc) (P := Try.prog) (fun x : S45 => (x.f0, x.f1, x.f2)) (fun a => (⟨a.1, a.2.1, a.2.2⟩ : S45)) (fun _ => rfl)
    (opens_struct (enc := enc) Try.underlying45 rfl (by kernel_rfl) (opensF_cons (off' := 1) rfl (by kernel_rfl) rfl (opens_int Try.underlying2) (opensF_cons (off' := 2) rfl (by kernel_rfl) rfl (opens_int Try.underlying2) (opensF_one rfl (by kernel_rfl) (opens_int Try.underlying2)))))
  refine mono_op h (fun r x hx => ?_)
  obtain ⟨l, _, y, t, _, ⟨_, h1⟩, y2, t2, _, ⟨_, h2⟩, y3, _, ⟨_, h3⟩⟩ := hx
  exact ⟨wf_I64 h1, wf_I64 h2, wf_I64 h3⟩
theorem slice_ints {H : Type} {l : List Int} {x : DataW H} (h : GSlice (GInt .i64) l x) : l.length ≤ maxLen ∧ ∀ n ∈ l, I64 n := by
  obtain ⟨h0, h⟩ := h
  refine ⟨h0, fun n hn => ?_⟩
  rcases h with ⟨rfl, _⟩ | ⟨ds, rest, _, hl, h⟩
  · cases hn
  · obtain ⟨i, hi, rfl⟩ := List.getElem_of_mem hn
    exact wf_I64 (h i _ _ (List.getElem?_eq_getElem hi) (List.getElem?_eq_getElem (by omega))).2
def entOk (v : S47) : Prop := (I64 v.f0 ∧ I64 v.f1 ∧ I64 v.f2 ∧ I64 v.f3 ∧ I64 v.f4) ∧ recOk v.f5 ∧ (v.f7.length ≤ maxLen ∧ ∀ x ∈ v.f7, I64 x) ∧ (v.f8.length ≤ maxLen ∧ ∀ x ∈ v.f8, I64 x)
theorem opens_Ent {H : Type} {enc : TypeId × Value → H} : Opens enc Try.prog k47 47 (fun v _ => entOk v) := by
  have h := opens_iso (enc := enc) (P := Try.prog) (fun x : S47 => (x.f0, x.f1, x.f2, x.f3, x.f4, x.f5, x.f6, x.f7, x.f8)) (fun a => (⟨a.1, a.2.1, a.2.2.1, a.2.2.2.1, a.2.2.2.2.1, a.2.2.2.2.2.1, a.2.2.2.2.2.2.1, a.2.2.2.2.2.2.2.1, a.2.2.2.2.2.2.2.2⟩ : S47)) (fun _ => rfl)
    (opens_struct (enc := enc) Try.underlying47 rfl (by kernel_rfl) (opensF_cons (off' := 1) rfl (by kernel_rfl) rfl (opens_int Try.underlying3) (opensF_cons (off' := 2) rfl (by kernel_rfl) rfl (opens_int Try.underlying3) (opensF_cons (off' := 3) rfl (by kernel_rfl) rfl (opens_int Try.underlying3) (opensF_cons (off' := 4) rfl (by kernel_rfl) rfl (opens_int Try.underlying3) (opensF_cons (off' := 5) rfl (by kernel_rfl) rfl (opens_int Try.underlying3) (opensF_cons (off' := 8) rfl (by kernel_rfl) rfl opens_R (opensF_cons (off' := 9) rfl (by kernel_rfl) rfl (opens_bool Try.underlying4)
      (opensF_cons (off' := 10) rfl (by kernel_rfl) rfl (opens_slice (e' := 3) Try.underlying39 (opens_int Try.underlying3) (by kernel_rfl))
      (opensF_one rfl (by kernel_rfl) (opens_slice (e' := 3) Try.underlying39 (opens_int Try.underlying3) (by kernel_rfl))))))))))))
  refine mono_op h (fun v x hx => ?_)
  obtain ⟨l, _, y, t, _, ⟨_, h1⟩, y2, t2, _, ⟨_, h2⟩, y3, t3, _, ⟨_, h3⟩, y4, t4, _, ⟨_, h4⟩, y5, t5, _, ⟨_, h5⟩, y6, t6, _, h6, y7, t7, _, h7, y8, t8, _, h8, y9, _, h9⟩ := hx
  exact ⟨⟨wf_I64 h1, wf_I64 h2, wf_I64 h3, wf_I64 h4, wf_I64 h5⟩, h6, slice_ints h8, slice_ints h9⟩
end Go.Proofs.Ytmnglonjekegcaa.Rc
namespace Go.Proofs.Ytmnglonjekegcaa.Vw
open Go Go.RowKit Go.Proofs.YtmnglonjekegcaaW.PrintWords Go.Proofs.Ytmnglonjekegcaa.Opn Go.Proofs.Ytmnglonjekegcaa.Rp Go.Proofs.Ytmnglonjekegcaa.Rc
set_option linter.unusedVariables false
set_option linter.unusedSimpArgs false
theorem opens_Es {H : Type} {enc : TypeId × Value → H} : Opens enc Try.prog (Kd.slice 47 k47) 22 (GSlice fun v (_ : DataW H) => entOk v) :=
  opens_slice Try.underlying22 opens_Ent (by kernel_rfl)
end Go.Proofs.Ytmnglonjekegcaa.Vw

