/- The statement TopoBack. -/
import Derived.Test.YteanncfmaomhaaaTpOf
import Derived.Test.YteanncfmaomhaaaExBy
import Derived.Test.YteanncfmaomhaaaEx5
import Derived.Test.YteanncfmaomhaaaEx8
import Derived.Test.YteanncfmaomhaaaTpCheck
import Derived.Test.YteanncfmaomhaaaEx3
import Derived.Test.YteanncfmaomhaaaOpT
import Derived.Test.YteanncfmaomhaaaEx9
namespace Go.Proofs.Yteanncfmaomhaaa.Ex
open Go Go.RowKit Go.Proofs.Yteanncfmaomhaaa.Pk Go.Proofs.YteanncfmaomhaaaW.PrintWords Go.Proofs.YteanncfmaomhaaaW.PrintLast Go.Proofs.YteanncfmaomhaaaW.PrintMore
set_option linter.unusedVariables false
set_option linter.unusedSimpArgs false
theorem uint_ev (x : List Int) (n : Int) (h0 : 0 ≤ n) (h : n < 18446744073709551616) (hx : x.length ≤ 1000000) : Ev (fun k => pack_Uint.f k x (IntKind.u64.wrap n)) (x ++ enc n) := by
  rw [wrap_u64 h0 h]
  exact Ev.of (fun k => pack_Uint.mono _ _ k) (uintFk 10 x n (by omega) h0 h (by omega))
theorem int_ev (x : List Int) (n : Int) (h : I64 n) (hx : x.length ≤ 1000000) : Ev (fun k => pack_Int.f k x n) (x ++ enc (uns n)) := by
  unfold I64 at h
  exact Ev.of (fun k => pack_Int.mono _ _ k) (intFk 10 x n (by omega) h.1 h.2 (by omega))
theorem drop_rdJ {l : List Int} {i : Nat} (h : i < l.length) : l.drop i = rd l i :: l.drop (i + 1) := by
  rw [List.drop_eq_getElem_cons h]
  congr 1
  unfold rd
  rw [Int.toNat_natCast, List.getD_eq_getElem?_getD, List.getElem?_eq_getElem h]
  rfl
theorem rd_memJ {l : List Int} {i : Nat} (h : i < l.length) : rd l i ∈ l := by
  have := drop_rdJ h
  exact List.mem_of_mem_drop (i := i) (by rw [this]; exact List.mem_cons_self)
theorem ints_l0 (l : List Int) (hl : ∀ n ∈ l, I64 n) (hm : l.length ≤ 1000) : ∀ (d i : Nat) (x : List Int), i + d = l.length → x.length + 10 * d ≤ 1000000 → Ev (fun k => pack_Ints.l0 k x l (l.length : Int) (i : Int)) (x ++ uenc (l.drop i)) := by
  intro d
  induction d with
  | zero =>
    intro i x hi hx
    rw [List.drop_of_length_le (by omega)]
    refine Ev.step (f := fun _ => some x) (fun k => ?_) (by simp [uenc]; exact Ev.now _)
    simp only [pack_Ints.l0]
    rw [if_neg (by omega)]
  | succ d ih =>
    intro i x hi hx
    have hlt : i < l.length := by omega
    have hr := hl _ (rd_memJ hlt)
    rw [drop_rdJ hlt, uenc_cons, ← List.append_assoc]
    refine Ev.step (f := fun k => (pack_Int.f k x (rd l i)).bind fun t => pack_Ints.l0 k t l (l.length : Int) ((i + 1 : Nat) : Int)) (fun k => ?_) ?_
    · simp only [pack_Ints.l0]
      rw [if_pos (by omega), if_pos (by omega), if_pos (by omega), wsucc (by omega)]
    · refine Ev.bind (int_ev x _ hr (by omega)) (ih (i + 1) _ (by omega) ?_)
      have h1 := enc_len (uns_range hr.1 hr.2).2
      rw [List.length_append]
      omega
theorem ints_ev (x l : List Int) (hl : ∀ n ∈ l, I64 n) (hm : l.length ≤ 1000) (hx : x.length ≤ 900000) : Ev (fun k => pack_Ints.f k x l) (x ++ (enc l.length ++ uenc l)) := by
  unfold pack_Ints.f
  refine Ev.bind (uint_ev x _ (by omega) (by omega) (by omega)) ?_
  have h1 := enc_len (n := (l.length : Int)) (by omega)
  have := ints_l0 l hl hm l.length 0 (x ++ enc l.length) (by omega) (by rw [List.length_append]; omega)
  rw [List.drop_zero, List.append_assoc] at this
  exact this
theorem pbytes_ev (x y : List Int) (hx : x.length ≤ 900000) (hy : y.length ≤ 900000) : Ev (fun k => pack_Bytes.f k x y) (x ++ (enc y.length ++ y)) := by
  unfold pack_Bytes.f
  refine Ev.bind (uint_ev x _ (by omega) (by omega) (by omega)) ?_
  have h1 := enc_len (n := (y.length : Int)) (by omega)
  rw [if_pos (by rw [List.length_append]; omega), List.append_assoc]
  exact Ev.now _
theorem vB_len {v : Vx} (h : Fit v) (hw : wfE v.f2) : (vB v).length ≤ 2000 := by
  have h0 := h.kind
  have hn := h.num
  unfold I64 at hn
  have a1 := enc_len (n := v.f0) (by omega)
  have a2 := enc_len (n := (v.f1.length : Int)) (by have := h.few; omega)
  have a3 := uenc_len (l := v.f1) (fun n hn => by have := h.ahead n hn; omega)
  have a4 := enc_len (uns_range hn.1 hn.2).2
  have a5 := exB_len hw
  have a6 := enc_len (n := ((exB v.f2).length : Int)) (by omega)
  have := h.few
  unfold vB
  simp only [List.length_append]
  omega
theorem ev_fst {α β : Type} {g : Nat → Option (α × β)} {a : α} {b : β} {γ : Type} {f : Nat → α → Option γ} {r : γ} (h : Ev g (a, b)) (k : Ev (fun n => f n a) r) : Ev (fun n => (g n).bind fun q => f n q.1) r :=
  Ev.bind (f := fun n q => f n q.1) h k
theorem bytes_l0 (l : List Vx) (hl : ∀ v ∈ l, Fit v ∧ wfE v.f2) (hm : l.length ≤ 24) : ∀ (d i : Nat) (x : List Int), i + d = l.length → x.length + 2000 * d ≤ 800000 → Ev (fun k => topo_Bytes.l0 k x l (l.length : Int) (i : Int)) (x ++ (l.drop i).flatMap vB, 0) := by
  intro d
  induction d with
  | zero =>
    intro i x hi hx
    rw [List.drop_of_length_le (by omega), List.flatMap_nil, List.append_nil]
    refine Ev.step (f := fun _ => some (x, 0)) (fun k => ?_) (Ev.now _)
    simp only [topo_Bytes.l0]
    rw [if_neg (by omega)]
  | succ d ih =>
    intro i x hi hx
    have hlt : i < l.length := by omega
    have hd := drop_vAt hlt
    have hmem : vAt l (i : Int) ∈ l := List.mem_of_mem_drop (i := i) (by rw [hd]; exact List.mem_cons_self)
    obtain ⟨hf, hw⟩ := hl _ hmem
    rw [hd, List.flatMap_cons, ← List.append_assoc]
    refine Ev.step (f := fun k => (pack_Uint.f k x (IntKind.u64.wrap (vAt l (i : Int)).f0)).bind fun t => (pack_Ints.f k t (vAt l (i : Int)).f1).bind fun t2 => (pack_Int.f k t2 (vAt l (i : Int)).f3).bind fun t3 => (expr_Bytes.f k (vAt l (i : Int)).f2.f0 (vAt l (i : Int)).f2.f1 (vAt l (i : Int)).f2.f2).bind fun q => (pack_Bytes.f k t3 q.1).bind fun t4 => topo_Bytes.l0 k t4 l (l.length : Int) ((i + 1 : Nat) : Int)) (fun k => ?_) ?_
    · simp only [topo_Bytes.l0]
      rw [if_pos (by omega), if_pos (by omega), if_pos (by omega), wsucc (by omega)]
      rfl
    · generalize vAt l (i : Int) = v at hf hw
      have h0 := hf.kind
      have hn := hf.num
      have hn2 := hn
      unfold I64 at hn2
      have a1 := enc_len (n := v.f0) (by omega)
      have a2 := enc_len (n := (v.f1.length : Int)) (by have := hf.few; omega)
      have a3 := uenc_len (l := v.f1) (fun n hn => by have := hf.ahead n hn; omega)
      have a4 := enc_len (uns_range hn2.1 hn2.2).2
      have a5 := exB_len hw
      have a7 := vB_len hf hw
      have a8 := hf.few
      refine Ev.bind (uint_ev x v.f0 (by omega) (by omega) (by omega)) ?_
      refine Ev.bind (ints_ev (x ++ enc v.f0) v.f1 (fun n hn => by have := hf.ahead n hn; unfold I64; omega) (by omega) (by simp only [List.length_append]; omega)) ?_
      refine Ev.bind (int_ev _ v.f3 hn (by simp only [List.length_append]; omega)) ?_
      refine Ev.bind (bytes_ev v.f2 hw) ?_
      have hx2 : (if mayB v.f2 = true then (putD 16 v.f2, (0 : Int)) else ([], 1)).1 = exB v.f2 := by unfold exB; split <;> rfl
      simp only [hx2]
      refine Ev.bind (pbytes_ev _ (exB v.f2) (by simp only [List.length_append]; omega) (by omega)) ?_
      have := ih (i + 1) (x ++ vB v) (by omega) (by rw [List.length_append]; omega)
      unfold vB at this ⊢
      simp only [List.append_assoc] at this ⊢
      exact this
theorem okV_f3 {l : List Vx} (h : ∀ v ∈ l, I64 v.f3) : okV l = true := by
  unfold okV
  rw [List.all_eq_true]
  intro v hv
  have := h v hv
  unfold I64 at this
  exact decide_eq_true this
theorem check_fn {l : List Vx} (h : ∀ v ∈ l, I64 v.f3) (p : Int) : topo_Check.f l p = some (checkOf l p) := by unfold topo_Check.f; rw [if_pos (okV_f3 h)]
theorem topoBytes_ev (l : List Vx) (p : Int) (h3 : ∀ v ∈ l, I64 v.f3) (hw : ∀ v ∈ l, wfE v.f2) : Ev (fun k => topo_Bytes.f k l p) (if (checkOf l p).2 = 0 then (tB l p, 0) else ([], (checkOf l p).2)) := by
  unfold topo_Bytes.f
  refine Ev.bind (g := fun _ => topo_Check.f l p) (a := checkOf l p) (by rw [check_fn h3]; exact Ev.now _) ?_
  by_cases hc : (checkOf l p).2 = 0
  · simp only [if_pos hc]
    obtain ⟨hp, hl, hv⟩ := check_all hc
    refine Ev.bind (uint_ev [] p (by omega) (by omega) (by simp)) ?_
    rw [List.nil_append]
    have a1 := enc_len (n := p) (by omega)
    have a2 := enc_len (n := (l.length : Int)) (by omega)
    refine Ev.bind (uint_ev (enc p) (l.length : Int) (by omega) (by omega) (by omega)) ?_
    have := bytes_l0 l (fun v hm => by obtain ⟨j, hj, hf⟩ := hv v hm; exact ⟨fit_of hj hf (hw v hm), hw v hm⟩) hl l.length 0 (enc p ++ enc l.length) (by omega) (by rw [List.length_append]; omega)
    rw [List.drop_zero, List.append_assoc] at this
    exact this
  · simp only [if_neg hc]
    exact Ev.now _
theorem tB_byt {l : List Vx} {p : Int} : Byt (tB l p) := by
  have happ : ∀ {a b : List Int}, Byt a → Byt b → Byt (a ++ b) := fun ha hb x hx => (List.mem_append.1 hx).elim (ha x) (hb x)
  refine happ (enc_byt _) (happ (enc_byt _) ?_)
  intro x hx
  obtain ⟨v, _, hx⟩ := List.mem_flatMap.1 hx
  exact happ (enc_byt _) (happ (happ (enc_byt _) (uenc_byt _)) (happ (enc_byt _) (happ (enc_byt _) (exB_byt _)))) x hx
theorem tB_len {l : List Vx} {p : Int} (hc : (checkOf l p).2 = 0) (hw : ∀ v ∈ l, wfE v.f2) : (tB l p).length ≤ 100000 := by
  obtain ⟨hp, hl, hv⟩ := check_all hc
  have hf : ∀ (m : List Vx), (∀ v ∈ m, Fit v ∧ wfE v.f2) → (m.flatMap vB).length ≤ 2000 * m.length := by
    intro m
    induction m with
    | nil => intro _; simp
    | cons v m ih =>
      intro h
      have := ih (fun u hu => h u (List.mem_cons_of_mem _ hu))
      have h1 := h v List.mem_cons_self
      have := vB_len h1.1 h1.2
      rw [List.flatMap_cons, List.length_append, List.length_cons]
      omega
  have h1 := hf l (fun v hm => by obtain ⟨j, hj, hf⟩ := hv v hm; exact ⟨fit_of hj hf (hw v hm), hw v hm⟩)
  have a1 := enc_len (n := p) (by omega)
  have a2 := enc_len (n := (l.length : Int)) (by omega)
  unfold tB
  simp only [List.length_append]
  omega
theorem sameI_l0 (l : List Int) (hm : l.length ≤ 9223372036854775807) : ∀ (d i : Nat), i + d = l.length → Ev (fun k => tidemillref01_Same.l0 k l l (i : Int)) true := by
  intro d
  induction d with
  | zero =>
    intro i hi
    refine Ev.step (f := fun _ => some true) (fun k => ?_) (Ev.now _)
    simp only [tidemillref01_Same.l0]
    rw [if_neg (by omega)]
  | succ d ih =>
    intro i hi
    refine Ev.step (f := fun k => tidemillref01_Same.l0 k l l ((i + 1 : Nat) : Int)) (fun k => ?_) (ih (i + 1) (by omega))
    simp only [tidemillref01_Same.l0]
    rw [if_pos (by omega), if_pos (by omega), if_pos (by omega), if_pos trivial, wsucc (by omega)]
theorem sameI_ev (l : List Int) (hm : l.length ≤ 9223372036854775807) : Ev (fun k => tidemillref01_Same.f k l l) true := by
  unfold tidemillref01_Same.f
  simp only [if_true]
  exact sameI_l0 l hm l.length 0 (by omega)
theorem sameT_l0 (l : List Vx) (p : Int) (hm : l.length ≤ 24) (hv : ∀ v ∈ l, v.f1.length ≤ 9223372036854775807 ∧ wfE v.f2) : ∀ (d i : Nat), i + d = l.length → Ev (fun k => tidemillref05_Same.l0 k (i : Int) l p l p) true := by
  intro d
  induction d with
  | zero =>
    intro i hi
    refine Ev.step (f := fun _ => some true) (fun k => ?_) (Ev.now _)
    simp only [tidemillref05_Same.l0]
    rw [if_neg (by omega)]
  | succ d ih =>
    intro i hi
    have hlt : i < l.length := by omega
    have hd := drop_vAt hlt
    have hmem : vAt l (i : Int) ∈ l := List.mem_of_mem_drop (i := i) (by rw [hd]; exact List.mem_cons_self)
    obtain ⟨h1, h2⟩ := hv _ hmem
    refine Ev.step (f := fun k => (tidemillref01_Same.f k (vAt l (i : Int)).f1 (vAt l (i : Int)).f1).bind fun t => if t = true then ((tidemillref04_Same.f k (vAt l (i : Int)).f2.f0 (vAt l (i : Int)).f2.f1 (vAt l (i : Int)).f2.f2 (vAt l (i : Int)).f2.f0 (vAt l (i : Int)).f2.f1 (vAt l (i : Int)).f2.f2).bind fun t2 => if t2 = true then tidemillref05_Same.l0 k ((i + 1 : Nat) : Int) l p l p else some false) else some false) (fun k => ?_) ?_
    · simp only [tidemillref05_Same.l0]
      rw [if_pos (by omega), if_pos (by omega), if_pos (by omega), if_pos trivial, if_pos trivial, wsucc (by omega)]
      rfl
    · refine Ev.bind (sameI_ev _ h1) ?_
      simp only [if_true]
      refine Ev.bind (same_ev _ h2) ?_
      simp only [if_true]
      exact ih (i + 1) (by omega)
theorem sameT_ev (l : List Vx) (p : Int) (hm : l.length ≤ 24) (hv : ∀ v ∈ l, v.f1.length ≤ 9223372036854775807 ∧ wfE v.f2) : Ev (fun k => tidemillref05_Same.f k l p l p) true := by
  unfold tidemillref05_Same.f
  simp only [if_true]
  refine Ev.step (f := fun k => tidemillref05_Same.l0 k ((0 : Nat) : Int) l p l p) (fun k => ?_) (sameT_l0 l p hm hv l.length 0 (by omega))
  simp only [tidemillref05_Same.j0, bne_self_eq_false, Bool.false_eq_true, if_false]
  rfl
end Go.Proofs.Yteanncfmaomhaaa.Ex
namespace Go.Proofs.Yteanncfmaomhaaa.Ex
open Go Go.RowKit Go.Proofs.YteanncfmaomhaaaW.PrintWords Go.Proofs.YteanncfmaomhaaaW.PrintLast Go.Proofs.YteanncfmaomhaaaW.PrintMore
set_option linter.unusedVariables false
set_option linter.unusedSimpArgs false
theorem vAt_rd (l : List Vx) (x : Int) : rd_T40 l x = vAt l x := rfl
theorem vAt_mem {l : List Vx} {i : Nat} (h : i < l.length) : vAt l (i : Int) ∈ l := by
  have := drop_vAt h
  exact List.mem_of_mem_drop (i := i) (by rw [this]; exact List.mem_cons_self)
theorem wrapN {i : Nat} (h : i < 9223372036854775807) : wrap64 ((i : Int) + 1) = ((i + 1 : Nat) : Int) := by unfold wrap64; omega
theorem count_l0 (l : List E) (x0 x1 : Int) (hl : l.length ≤ 9223372036854775807) (g : E → Int) (hf : ∀ x ∈ l, Ev (fun k => tidemillref04_Count.f k x.f0 x.f1 x.f2) (g x)) :
    ∀ (r i : Nat) (n : Int), i + r = l.length → Ev (fun k => tidemillref04_Count.l0 k n (i : Int) x0 x1 l) ((l.drop i).foldl (fun n x => wrap64 (n + g x)) n) := by
  intro r
  induction r with
  | zero =>
    intro i n hi
    rw [List.drop_of_length_le (by omega)]
    refine Ev.step (f := fun _ => some n) (fun k => ?_) (Ev.now _)
    simp only [tidemillref04_Count.l0]
    rw [if_neg (by omega)]
  | succ r ih =>
    intro i n hi
    have hlt : i < l.length := by omega
    rw [drop_rd hlt]
    refine Ev.step (f := fun k => (tidemillref04_Count.f k (rd_T38 l (i : Int)).f0 (rd_T38 l (i : Int)).f1 (rd_T38 l (i : Int)).f2).bind fun t => tidemillref04_Count.l0 k (wrap64 (n + t)) ((i + 1 : Nat) : Int) x0 x1 l) (fun k => ?_) ?_
    · simp only [tidemillref04_Count.l0]
      rw [if_pos (by omega), if_pos (by omega), wsucc (by omega)]
    · exact Ev.bind (hf _ (rd_mem hlt)) (ih (i + 1) _ (by omega))
theorem count_ev (e : E) (hl : e.f2.length ≤ 9223372036854775807) (g : E → Int) (hf : ∀ x ∈ e.f2, Ev (fun k => tidemillref04_Count.f k x.f0 x.f1 x.f2) (g x)) : Ev (fun k => tidemillref04_Count.f k e.f0 e.f1 e.f2) (e.f2.foldl (fun n x => wrap64 (n + g x)) 1) := by
  refine Ev.step (f := fun k => tidemillref04_Count.l0 k 1 ((0 : Nat) : Int) e.f0 e.f1 e.f2) (fun k => by simp only [tidemillref04_Count.f]; rfl) ?_
  have := count_l0 e.f2 e.f0 e.f1 hl g hf e.f2.length 0 1 (by omega)
  rwa [List.drop_zero] at this
theorem count_any : ∀ e, wfE e → ∃ c, Ev (fun k => tidemillref04_Count.f k e.f0 e.f1 e.f2) c := by
  refine E_ind (fun e ih hw => ?_)
  have h := hw.out
  have hc : ∀ x, ∃ c : Int, x ∈ e.f2 → Ev (fun k => tidemillref04_Count.f k x.f0 x.f1 x.f2) c := fun x => by
    by_cases hx : x ∈ e.f2
    · obtain ⟨c, hc⟩ := ih x hx (h.2.2.2 x hx)
      exact ⟨c, fun _ => hc⟩
    · exact ⟨0, fun hx' => absurd hx' hx⟩
  exact ⟨_, count_ev e h.2.2.1 (fun x => Classical.choose (hc x)) (fun x hx => Classical.choose_spec (hc x) hx)⟩
theorem small_l0 (l : List Vx) (p : Int) (hw : ∀ v ∈ l, wfE v.f2) (hl : l.length ≤ 1759218604441) : ∀ (d i : Nat) (n : Int), i + d = l.length → ∃ b, Ev (fun k => tidemilllaw05_small.l0 k n (i : Int) l p) b := by
  intro d
  induction d with
  | zero =>
    intro i n hi
    refine ⟨decide (n ≤ 5000), Ev.step (f := fun _ => some (decide (n ≤ 5000))) (fun k => ?_) (Ev.now _)⟩
    simp only [tidemilllaw05_small.l0]
    rw [if_neg (by omega)]
  | succ d ih =>
    intro i n hi
    have hlt : i < l.length := by omega
    by_cases hn : n ≤ 5000
    · obtain ⟨c, hc⟩ := count_any (vAt l (i : Int)).f2 (hw _ (vAt_mem hlt))
      obtain ⟨b, hb⟩ := ih (i + 1) (wrap64 (n + c)) (by omega)
      refine ⟨b, Ev.step (f := fun k => (tidemillref04_Count.f k (vAt l (i : Int)).f2.f0 (vAt l (i : Int)).f2.f1 (vAt l (i : Int)).f2.f2).bind fun t167 => tidemilllaw05_small.l0 k (wrap64 (n + t167)) ((i + 1 : Nat) : Int) l p) (fun k => ?_) (Ev.bind hc hb)⟩
      simp only [tidemilllaw05_small.l0]
      rw [if_pos (by omega), if_pos hn, if_pos (by omega), vAt_rd, wrapN (by omega)]
    · refine ⟨decide (n ≤ 5000), Ev.step (f := fun _ => some (decide (n ≤ 5000))) (fun k => ?_) (Ev.now _)⟩
      simp only [tidemilllaw05_small.l0]
      rw [if_pos (by omega), if_neg hn]
theorem small_ev (l : List Vx) (p : Int) (hw : ∀ v ∈ l, wfE v.f2) (hl : l.length ≤ 1759218604441) : ∃ b, Ev (fun k => tidemilllaw05_small.f k l p) b := small_l0 l p hw hl l.length 0 0 (by omega)
theorem shown40 : tidemilllaw05_shown.f 40 = some true := by decide +kernel
theorem shown_ev : Ev (fun k => tidemilllaw05_shown.f k) true := Ev.of (fun k => tidemilllaw05_shown.mono k) shown40
end Go.Proofs.Yteanncfmaomhaaa.Ex
namespace Go.Proofs.Yteanncfmaomhaaa.Ex
open Go Go.RowKit Go.Proofs.Yteanncfmaomhaaa.Pk Go.Proofs.YteanncfmaomhaaaW.PrintWords Go.Proofs.YteanncfmaomhaaaW.PrintLast Go.Proofs.YteanncfmaomhaaaW.PrintMore
set_option linter.unusedVariables false
set_option linter.unusedSimpArgs false
theorem rdV_nz {xs : List Int} {e : Int} (h : rdV xs = .inl e) : e ≠ 0 := by
  unfold rdV at h
  split at h
  · injection h with h; rw [← h]; assumption
  unfold rdV2 at h
  split at h
  · injection h with h; rw [← h]; assumption
  unfold rdV3 at h
  split at h
  · injection h with h; rw [← h]; assumption
  unfold rdV4 at h
  split at h
  · injection h with h; rw [← h]; assumption
  unfold rdV5 at h
  split at h
  · split at h
    · injection h with h; rw [← h]; assumption
    · cases h
  · cases h
theorem rdVs_nz : ∀ (m : Nat) (xs : List Int) (e : Int), rdVs m xs = .inl e → e ≠ 0 := by
  intro m
  induction m with
  | zero => intro xs e h; simp [rdVs] at h
  | succ m ih =>
    intro xs e h
    rw [rdVs] at h
    cases hg : rdV xs with
    | inl e1 => rw [hg] at h; injection h with h; rw [← h]; exact rdV_nz hg
    | inr q =>
      obtain ⟨v, r⟩ := q
      rw [hg] at h
      simp only at h
      cases hk : rdVs m r with
      | inl e2 => rw [hk] at h; injection h with h; rw [← h]; exact ih _ _ hk
      | inr q => obtain ⟨vs, r2⟩ := q; rw [hk] at h; cases h
theorem ofT3_good {p : Int} {m : Nat} {xs : List Int} (h : (ofT3 p (rdVs m xs)).2.2 = 0) : (checkOf (ofT3 p (rdVs m xs)).1 (ofT3 p (rdVs m xs)).2.1).2 = 0 := by
  cases hk : rdVs m xs with
  | inl e => rw [hk] at h; exact absurd h (rdVs_nz _ _ _ hk)
  | inr q =>
    obtain ⟨vs, r⟩ := q
    rw [hk] at h
    simp only [ofT3] at h ⊢
    by_cases hr : 0 < r.length
    · rw [if_pos hr] at h; exact absurd h (by simp)
    rw [if_neg hr] at h ⊢
    by_cases hc : (checkOf vs p).2 ≠ 0
    · rw [if_pos hc] at h; exact absurd h hc
    rw [if_neg hc]
    simpa using hc
theorem ofT_good {xs : List Int} (h : (ofT xs).2.2 = 0) : (checkOf (ofT xs).1 (ofT xs).2.1).2 = 0 := by
  unfold ofT at h ⊢
  by_cases h0 : (rdU xs).2.1 ≠ 0
  · rw [if_pos h0] at h; exact absurd h h0
  rw [if_neg h0] at h ⊢
  unfold ofT2 at h ⊢
  by_cases h1 : (rdU (rdU xs).2.2).2.1 ≠ 0
  · rw [if_pos h1] at h; exact absurd h h1
  rw [if_neg h1] at h ⊢
  by_cases h2 : 24 < (rdU (rdU xs).2.2).1
  · rw [if_pos h2] at h; exact absurd h (by simp)
  rw [if_neg h2] at h ⊢
  exact ofT3_good h
theorem j0_ev (b : List Int) (hb : bytB b = true) : Ev (fun k => tidemilllaw05_TopoBack.j0 k b true false) true := by
  have hby := (bytB_of hb).1
  obtain ⟨⟨hw, hl, hp⟩, hi⟩ := ofT_is hby
  have hg := ofT_good (xs := b)
  have h1 := topoBytes_ev (ofT b).1 (ofT b).2.1 (fun v hv => (hw v hv).num) (fun v hv => (hw v hv).ex)
  refine Ev.step (f := fun k => (topo_Of.f b).bind fun q => (topo_Bytes.f k q.1 q.2.1).bind fun y => if q.2.2 = 0 then (if y.2 = 0 then (some ((strOfNums y.1).toList == (strOfNums b).toList)) else (some false)) else (some true)) (fun k => by simp only [tidemilllaw05_TopoBack.j0, Bool.false_eq_true, if_false, if_true]) ?_
  refine Ev.bind (g := fun _ => topo_Of.f b) (a := ofT b) (by unfold topo_Of.f; rw [if_pos hb]; exact Ev.now _) ?_
  refine Ev.bind h1 ?_
  by_cases h : (ofT b).2.2 = 0
  · have hc := hg h
    simp only [if_pos h, if_pos hc, if_true]
    rw [hi h hc, beq_self_eq_true]
    exact Ev.now _
  · simp only [if_neg h]
    exact Ev.now _
theorem topoBack_ev (l : List Vx) (p : Int) (b : List Int) (hv : ∀ v ∈ l, vxOk v) (hl : l.length ≤ 1759218604441) (hb : bytB b = true) : Ev (fun k => tidemilllaw05_TopoBack.f k l p b) true := by
  have hw : ∀ v ∈ l, wfE v.f2 := fun v h => (hv v h).2.2.1
  have h3 : ∀ v ∈ l, I64 v.f3 := fun v h => (hv v h).2.2.2
  obtain ⟨s, hs⟩ := small_ev l p hw hl
  have hj := j0_ev b hb
  have h1 := topoBytes_ev l p h3 hw
  unfold tidemilllaw05_TopoBack.f
  refine Ev.bind shown_ev ?_
  refine Ev.bind hs ?_
  cases s with
  | false => exact Ev.now _
  | true =>
    simp only [if_true]
    refine Ev.bind h1 ?_
    by_cases hc : (checkOf l p).2 = 0
    · simp only [if_pos hc]
      have hbt : bytB (tB l p) = true := bytB_mk tB_byt (by have := tB_len hc hw; omega)
      refine Ev.bind (g := fun _ => topo_Of.f (tB l p)) (a := (l, p, 0)) (by unfold topo_Of.f; rw [if_pos hbt, ofT_back hc hw]; exact Ev.now _) ?_
      refine Ev.bind (g := fun _ => topo_Check.f l p) (a := checkOf l p) (by rw [check_fn h3]; exact Ev.now _) ?_
      simp only [hc, if_true]
      have hl24 := (check_all hc).2.1
      refine Ev.bind (sameT_ev l p hl24 (fun v hm => ⟨by have := (hv v hm).2.1.1; have : maxLen ≤ 9223372036854775807 := (by decide); omega, hw v hm⟩)) ?_
      exact hj
    · simp only [if_neg hc]
      refine Ev.bind (g := fun _ => topo_Of.f []) (a := ofT []) (by unfold topo_Of.f; rw [if_pos (by decide)]; exact Ev.now _) ?_
      refine Ev.bind (g := fun _ => topo_Check.f l p) (a := checkOf l p) (by rw [check_fn h3]; exact Ev.now _) ?_
      simp only [if_true, if_neg hc]
      exact hj
theorem topoBack_ok (A0 : Option Addr) (c0 : Nat) (l : List Vx) (p : Int) (A1 : Option Addr) (c1 : Nat) (b : List Int) (w : World) (hC : Kd.C k40 w A0 l.length l) (hc : l.length ≤ c0) (hv : ∀ v ∈ l, vxOk v) (hl : l.length ≤ 1759218604441)
    (hr1 : Kd.C (Kd.int .u8) w A1 b.length b) (hc1 : b.length ≤ c1) (hb : b.length < 140737488355328) (hy : ∀ x ∈ b, 0 ≤ x ∧ x < 256) :
    Calls Try.prog 7 #[.agg #[.slice A0 l.length c0, .int .i64 p], .slice A1 b.length c1] w fun e w' => e = .returned (.bool true) ∧ Below w.heap.size w w' := by
  obtain ⟨k, hk⟩ := Ev.rounds (topoBack_ev l p b hv hl (bytB_mk hy hb))
  exact tidemilllaw05_TopoBack.calls k A0 c0 l p A1 c1 b true w hC hc hr1 hc1 hk
theorem open_T {w : World} {t : List Vx × Int} {cs : List Value} (h : (Kd.pair (Kd.slice 40 k40) (Kd.int .i64)).K w t cs) : ∃ A c, cs = [.slice A t.1.length c, .int .i64 t.2] ∧ t.1.length ≤ c ∧ Kd.C k40 w A t.1.length t.1 := by
  obtain ⟨_, _, rfl, ⟨A, c, rfl, l1, g1⟩, rfl⟩ := h
  exact ⟨A, c, rfl, l1, g1⟩
theorem wfb3_u8 {n : Int} (h : (Lit.int .u8 n).wf = true) : 0 ≤ n ∧ n < 256 := by
  simp [Lit.wf, IntKind.min, IntKind.max, IntKind.bits, IntKind.signed] at h
  omega
end Go.Proofs.Yteanncfmaomhaaa.Ex
